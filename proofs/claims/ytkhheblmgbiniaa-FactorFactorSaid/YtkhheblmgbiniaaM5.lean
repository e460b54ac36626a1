/- Plain law: two injective morphisms into one graph go through an overlap and the rest. -/
import Derived.Test.YtkhheblmgbiniaaSB
import Derived.Test.YtkhheblmgbiniaaM3
namespace Go.Sy
open Go Go.Proofs

theorem mErr_node {a b : Gr} {m : Mo} (h : mErr a b m = 0) {i : Nat} (hi : i < a.n.length) : 0 ≤ m.n.getD i 0 ∧ (m.n.getD i 0).toNat < b.n.length ∧ b.n.getD (m.n.getD i 0).toNat 0 = a.n.getD i 0 := by
  have := (mErr_ok h).2.2.2.2.1 i hi
  rw [nodeErr] at this
  split at this
  · cases this
  split at this
  · cases this
  · rename_i h1 h2
    simp only [ne_eq, Decidable.not_not] at h2
    exact ⟨by omega, by omega, h2⟩
theorem mErr_edge {a b : Gr} {m : Mo} (h : mErr a b m = 0) {i : Nat} (hi : i < a.e.length) : 0 ≤ m.e.getD i 0 ∧ (m.e.getD i 0).toNat < b.e.length ∧ (a.e.getD i (0, 0, 0)).1 = (b.e.getD (m.e.getD i 0).toNat (0, 0, 0)).1 ∧
    m.n.getD (a.e.getD i (0, 0, 0)).2.1.toNat 0 = (b.e.getD (m.e.getD i 0).toNat (0, 0, 0)).2.1 ∧ m.n.getD (a.e.getD i (0, 0, 0)).2.2.toNat 0 = (b.e.getD (m.e.getD i 0).toNat (0, 0, 0)).2.2 := by
  have := (mErr_ok h).2.2.2.2.2 i hi
  rw [edgeErr] at this
  split at this
  · cases this
  split at this
  · cases this
  split at this
  · cases this
  · rename_i h1 h2 h3
    simp only [ne_eq, Decidable.not_not] at h2
    exact ⟨by omega, by omega, h2, by omega, by omega⟩
theorem edge_in {g : Gr} (h : gErr g = 0) {i : Nat} (hi : i < g.e.length) : 0 ≤ (g.e.getD i (0, 0, 0)).2.1 ∧ (g.e.getD i (0, 0, 0)).2.1 < g.n.length ∧ 0 ≤ (g.e.getD i (0, 0, 0)).2.2 ∧ (g.e.getD i (0, 0, 0)).2.2 < g.n.length := by
  have := ((gErr_small h).2.2 _ (List.getElem_mem hi)).2
  rw [getD_at hi]
  exact this
theorem dist_at {l : List Int} (h : dist l = true) {i j : Nat} (hi : i < l.length) (hj : j < l.length) (he : l.getD i 0 = l.getD j 0) : i = j := by
  have h := List.all_eq_true.1 h
  rcases Nat.lt_trichotomy i j with h1 | h1 | h1
  · have := List.all_eq_true.1 (h j (List.mem_range.2 hj)) i (List.mem_range.2 h1)
    simp only [decide_eq_true_eq] at this
    exact absurd he.symm this
  · exact h1
  · have := List.all_eq_true.1 (h i (List.mem_range.2 hi)) j (List.mem_range.2 h1)
    simp only [decide_eq_true_eq] at this
    exact absurd he this
/-! ### Places -/
theorem plc_val (h k : List Int) {i : Nat} (hi : i < k.length) : ((plc h k).getD i 0 = -1 ∧ ∀ c, c < h.length → h.getD c 0 ≠ k.getD i 0) ∨ ∃ c : Nat, c < h.length ∧ (plc h k).getD i 0 = (c : Int) ∧ h.getD c 0 = k.getD i 0 := by
  have e : (plc h k).getD i 0 = idxP (fun y => k[i] == y) h := by rw [getD_at (by rw [plc_len]; exact hi)]; simp [plc]
  rw [e, getD_at hi]
  rcases idxP_cases (fun y => k[i] == y) h with ⟨h1, h2⟩ | ⟨c, hc, h1, h2⟩
  · refine .inl ⟨h1, fun c hc he => ?_⟩
    have := h2 _ (List.getElem_mem hc)
    rw [getD_at hc] at he
    rw [he] at this
    simp at this
  · refine .inr ⟨c, hc, h1, ?_⟩
    rw [getD_at hc]
    exact (beq_iff_eq.1 h2).symm
theorem plc_hit {h k : List Int} (hd : dist h = true) {i c : Nat} (hi : i < k.length) (hc : c < h.length) (he : h.getD c 0 = k.getD i 0) : (plc h k).getD i 0 = (c : Int) := by
  rcases plc_val h k hi with ⟨_, h2⟩ | ⟨c', hc', h1, h2⟩
  · exact absurd he (h2 c hc)
  · rw [h1, dist_at hd hc' hc (by rw [h2, he])]
theorem plc_PI {h k : List Int} (hk : dist k = true) {R : Nat → Nat → Prop} (hR : ∀ i c, i < k.length → c < h.length → h.getD c 0 = k.getD i 0 → R i c) : PI k.length h.length R (plc h k) := by
  refine ⟨plc_len _ _, fun i hi => ?_, fun i j hij hj he => ?_⟩
  · rcases plc_val h k hi with ⟨h1, _⟩ | ⟨c, hc, h1, h2⟩
    · exact .inl h1
    · exact .inr ⟨c, hc, h1, hR i c hi hc h2⟩
  · rcases plc_val h k (show i < k.length by omega) with ⟨h1, _⟩ | ⟨c, hc, h1, h2⟩
    · exact h1
    · rcases plc_val h k hj with ⟨h3, _⟩ | ⟨c', hc', h3, h4⟩
      · rw [he, h3]
      · have : c = c' := by omega
        subst this
        have := dist_at hk (show i < k.length by omega) hj (by rw [← h2, h4])
        omega
/-! ### Two lists that grow alike -/
theorem gG_snd {α β : Type} {a : List α} {a' : List β} (f : Nat → α) (f' : Nat → β) (q : List Int) (hl : a.length = a'.length) : ∀ i, (gG a f q i).2 = (gG a' f' q i).2 ∧ (gG a f q i).1.length = (gG a' f' q i).1.length
  | 0 => ⟨rfl, hl⟩
  | i + 1 => by
    obtain ⟨h1, h2⟩ := gG_snd f f' q hl i
    rw [gG, gG]
    split
    · refine ⟨by rw [h1, h2], by simp [h2]⟩
    · exact ⟨by rw [h1], h2⟩
theorem GS.at {α : Type} {a : List α} {f : Nat → α} {q : List Int} {n : Nat} {L : List α} {R : List Int} (h : GS a f q n L R) (d : α) {c : Nat} (hc : c < L.length) :
    (c < a.length ∧ L.getD c d = a.getD c d) ∨ (a.length ≤ c ∧ ∃ j, j < n ∧ q.getD j 0 < 0 ∧ R.getD j 0 = (c : Int) ∧ L.getD c d = f j) := by
  by_cases hca : c < a.length
  · exact .inl ⟨hca, h.old_at hca d⟩
  · obtain ⟨j, j1, j2, j3⟩ := h.cov c (by omega) hc
    refine .inr ⟨by omega, j, j1, j2, j3, ?_⟩
    have := (h.new j j1 j2).2
    rw [j3, Int.toNat_natCast] at this
    rw [List.getD_eq_getElem?_getD, this]
    rfl
theorem GS.new_at {α : Type} {a : List α} {f : Nat → α} {q : List Int} {n : Nat} {L : List α} {R : List Int} (h : GS a f q n L R) (d : α) {j : Nat} (hj : j < n) (hq : q.getD j 0 < 0) : L.getD (R.getD j 0).toNat d = f j := by
  have := (h.new j hj hq).2
  rw [List.getD_eq_getElem?_getD, this]
  rfl
/-- Where the rest takes an element of the overlap that comes from the second graph. -/
theorem rest_back {h k : List Int} {L R : List Int} (hg : GS h (fun j => k.getD j 0) (plc h k) k.length L R) {j : Nat} (hj : j < k.length) : L.getD (R.getD j 0).toNat 0 = k.getD j 0 := by
  rcases plc_val h k hj with ⟨h1, _⟩ | ⟨c, hc, h1, h2⟩
  · exact hg.new_at 0 hj (by omega)
  · rw [hg.old j hj (by omega), h1, Int.toNat_natCast, hg.old_at hc 0, h2]
theorem rest_dist {h k : List Int} {L R : List Int} (hg : GS h (fun j => k.getD j 0) (plc h k) k.length L R) (hd : dist h = true) (kd : dist k = true) : dist L = true := by
  have hcase : ∀ c d, c < d → d < L.length → L.getD c 0 ≠ L.getD d 0 := by
    intro c d hcd hd' he
    rcases hg.at 0 (show c < L.length by omega) with ⟨c1, c2⟩ | ⟨c1, j, j1, j2, j3, c2⟩
    · rcases hg.at 0 hd' with ⟨d1, d2⟩ | ⟨d1, i, i1, i2, i3, d2⟩
      · have := dist_at hd c1 d1 (by rw [← c2, ← d2, he])
        omega
      · rcases plc_val h k i1 with ⟨_, h1⟩ | ⟨x, _, h1, _⟩
        · exact h1 c c1 (by rw [← c2, he, d2])
        · omega
    · rcases hg.at 0 hd' with ⟨d1, d2⟩ | ⟨d1, i, i1, i2, i3, d2⟩
      · omega
      · have := dist_at kd j1 i1 (by show k.getD j 0 = k.getD i 0; rw [c2, d2] at he; exact he)
        subst this
        omega
  exact dist_yes fun i hi k hk e => hcase k i hk hi e.symm
/-- A list of different numbers below n has at most n. -/
theorem dist_le {l : List Int} {n : Nat} (h : dist l = true) (hl : ∀ x ∈ l, 0 ≤ x ∧ x < n) : l.length ≤ n := by
  have h1 : (l.map Int.toNat).Nodup := by
    rw [List.Nodup, List.pairwise_map]
    refine ((dist_nodup l).1 h).imp_of_mem fun {a b} ha hb hne e => hne ?_
    have := hl a ha
    have := hl b hb
    omega
  have h2 := List.Nodup.length_le_of_subset h1 (l₂ := List.range n) (fun x hx => by
    obtain ⟨y, hy, rfl⟩ := List.mem_map.1 hx
    have := hl y hy
    exact List.mem_range.2 (by omega))
  simpa using h2
theorem injR_dist {a b : Gr} {m : Mo} (h : injR a b m = true) : mErr a b m = 0 ∧ dist m.n = true ∧ dist m.e = true := by
  unfold injR at h
  simp only [Bool.and_eq_true, beq_iff_eq] at h
  exact h
theorem thru_isM {a b x : Gr} {h k : Mo} (i1 : injR a x h = true) (i2 : injR b x k = true) : isM a b (plc h.n k.n, plc h.e k.e) := by
  obtain ⟨g1, d1, d2⟩ := injR_dist i1
  obtain ⟨g2, d3, d4⟩ := injR_dist i2
  have o1 := mErr_ok g1
  have o2 := mErr_ok g2
  have P1 : PI k.n.length h.n.length (relN a b) (plc h.n k.n) := plc_PI d3 fun i c hi hc he => by
    have n1 := mErr_node g1 (show c < a.n.length by omega)
    have n2 := mErr_node g2 (show i < b.n.length by omega)
    rw [he] at n1
    rw [relN, ← n1.2.2, ← n2.2.2]
  have P2 : PI k.e.length h.e.length (relE a b (plc h.n k.n)) (plc h.e k.e) := plc_PI d4 fun i c hi hc he => by
    have hc' : c < a.e.length := by omega
    have hi' : i < b.e.length := by omega
    have n1 := mErr_edge g1 hc'
    have n2 := mErr_edge g2 hi'
    have r1 := edge_in o1.1 hc'
    have r2 := edge_in o2.1 hi'
    rw [he] at n1
    have e1 := plc_hit (k := k.n) d1 (i := (b.e.getD i (0, 0, 0)).2.1.toNat) (c := (a.e.getD c (0, 0, 0)).2.1.toNat) (by omega) (by omega) (by rw [n1.2.2.2.1, n2.2.2.2.1])
    have e2 := plc_hit (k := k.n) d1 (i := (b.e.getD i (0, 0, 0)).2.2.toNat) (c := (a.e.getD c (0, 0, 0)).2.2.toNat) (by omega) (by omega) (by rw [n1.2.2.2.2, n2.2.2.2.2])
    rw [relE, e1, e2]
    refine Prod.ext ?_ (Prod.ext ?_ ?_)
    · rw [n1.2.2.1, n2.2.2.1]
    · show _ = (((a.e.getD c (0, 0, 0)).2.1.toNat : Nat) : Int)
      omega
    · show _ = (((a.e.getD c (0, 0, 0)).2.2.toNat : Nat) : Int)
      omega
  rw [o1.2.2.1, o2.2.2.1] at P1
  rw [o1.2.2.2.1, o2.2.2.2.1] at P2
  exact ⟨P1, P2⟩
/-- What the rest is, beside the overlap. -/
structure RestOK (a b : Gr) (h k : Mo) (G : Ov) (r : Mo) : Prop where
  n : GS h.n (fun j => k.n.getD j 0) (plc h.n k.n) k.n.length r.n G.r.n
  e : GS h.e (fun j => k.e.getD j 0) (plc h.e k.e) k.e.length r.e G.r.e
  ln : r.n.length = G.g.n.length
  le : r.e.length = G.g.e.length
theorem rest_ok {a b x : Gr} {h k : Mo} (i1 : injR a x h = true) (i2 : injR b x k = true) : RestOK a b h k (glue a b (plc h.n k.n) (plc h.e k.e)) (rst h k (plc h.n k.n) (plc h.e k.e)) := by
  obtain ⟨g1, d1, d2⟩ := injR_dist i1
  obtain ⟨g2, d3, d4⟩ := injR_dist i2
  have o1 := mErr_ok g1
  have o2 := mErr_ok g2
  have hM := thru_isM i1 i2
  have s1 := gG_snd (a := h.n) (a' := a.n) (fun j => k.n.getD j 0) (fun j => b.n.getD j 0) (plc h.n k.n) (by omega) (plc h.n k.n).length
  have s2 := gG_snd (a := h.e) (a' := a.e) (fun j => k.e.getD j 0) (edF b.e (gN a.n b.n (plc h.n k.n) (plc h.n k.n).length).2) (plc h.e k.e) (by omega) (plc h.e k.e).length
  constructor
  · show GS _ _ _ _ (gN h.n k.n (plc h.n k.n) (plc h.n k.n).length).1 (gN a.n b.n (plc h.n k.n) (plc h.n k.n).length).2
    rw [gN_gG, gN_gG, ← s1.1, plc_len]
    refine gG_spec (fun j hj => ?_) _ (Nat.le_refl _)
    have := hM.1.ok j (by omega)
    rw [o1.2.2.1]
    exact this
  · show GS _ _ _ _ (gN h.e k.e (plc h.e k.e) (plc h.e k.e).length).1 (gE a.e b.e (gN a.n b.n (plc h.n k.n) (plc h.n k.n).length).2 (plc h.e k.e) (plc h.e k.e).length).2
    rw [gN_gG h.e, gE_gG, ← s2.1, plc_len]
    refine gG_spec (fun j hj => ?_) _ (Nat.le_refl _)
    have := hM.2.ok j (by omega)
    rw [o1.2.2.2.1]
    exact this
  · show (gN h.n k.n (plc h.n k.n) (plc h.n k.n).length).1.length = (gN a.n b.n (plc h.n k.n) (plc h.n k.n).length).1.length
    rw [gN_gG, gN_gG]
    exact s1.2
  · show (gN h.e k.e (plc h.e k.e) (plc h.e k.e).length).1.length = (gE a.e b.e (gN a.n b.n (plc h.n k.n) (plc h.n k.n).length).2 (plc h.e k.e) (plc h.e k.e).length).1.length
    rw [gN_gG h.e, gE_gG]
    exact s2.2
theorem thr_eq {R L k : List Int} (hl : R.length = k.length) (h : ∀ j, j < k.length → L.getD (R.getD j 0).toNat 0 = k.getD j 0) : thr R L = k := by
  refine List.ext_getElem (by simp [thr, hl]) fun i h1 h2 => ?_
  have := h i h2
  rw [getD_at h2, getD_at (show i < R.length by omega)] at this
  simp only [thr, List.getElem_map]
  exact this
theorem thru_all {a b x : Gr} {h k : Mo} (i1 : injR a x h = true) (i2 : injR b x k = true) :
    cmpR a (glue a b (plc h.n k.n) (plc h.e k.e)).g x (glue a b (plc h.n k.n) (plc h.e k.e)).l (rst h k (plc h.n k.n) (plc h.e k.e)) = (h, 0) ∧
    cmpR b (glue a b (plc h.n k.n) (plc h.e k.e)).g x (glue a b (plc h.n k.n) (plc h.e k.e)).r (rst h k (plc h.n k.n) (plc h.e k.e)) = (k, 0) ∧
    injR (glue a b (plc h.n k.n) (plc h.e k.e)).g x (rst h k (plc h.n k.n) (plc h.e k.e)) = true := by
  have hM := thru_isM i1 i2
  have hR := rest_ok i1 i2
  have hG := glue_ok hM
  obtain ⟨g1, d1, d2⟩ := injR_dist i1
  obtain ⟨g2, d3, d4⟩ := injR_dist i2
  have o1 := mErr_ok g1
  have o2 := mErr_ok g2
  have gx := gErr_small o1.2.1
  have dn := rest_dist hR.n d1 d3
  have de := rest_dist hR.e d2 d4
  have hln := hR.ln
  have hle := hR.le
  -- where the rest takes the overlap's nodes and edges
  have nin : ∀ c, c < (glue a b (plc h.n k.n) (plc h.e k.e)).g.n.length → nodeErr (glue a b (plc h.n k.n) (plc h.e k.e)).g x (rst h k (plc h.n k.n) (plc h.e k.e)) c = 0 := by
    intro c hc
    rw [nodeErr]
    rcases hR.n.at 0 (show c < (rst h k (plc h.n k.n) (plc h.e k.e)).n.length by omega) with ⟨c1, c2⟩ | ⟨c1, j, j1, j2, j3, c2⟩
    · have := mErr_node g1 (show c < a.n.length by omega)
      rw [c2, hG.n.old_at (show c < a.n.length by omega) 0, if_neg (by omega), if_neg (by rw [this.2.2]; simp)]
    · have := mErr_node g2 (show j < b.n.length by omega)
      have e := hG.n.new_at 0 (show j < b.n.length by omega) j2
      rw [j3, Int.toNat_natCast] at e
      rw [c2, e, if_neg (by omega), if_neg (by rw [this.2.2]; simp)]
  have ein : ∀ c, c < (glue a b (plc h.n k.n) (plc h.e k.e)).g.e.length → edgeErr (glue a b (plc h.n k.n) (plc h.e k.e)).g x (rst h k (plc h.n k.n) (plc h.e k.e)) c = 0 := by
    intro c hc
    rw [edgeErr]
    rcases hR.e.at 0 (show c < (rst h k (plc h.n k.n) (plc h.e k.e)).e.length by omega) with ⟨c1, c2⟩ | ⟨c1, j, j1, j2, j3, c2⟩
    · have hc' : c < a.e.length := by omega
      have n := mErr_edge g1 hc'
      have r := edge_in o1.1 hc'
      rw [c2, hG.e.old_at hc' (0, 0, 0), hR.n.old_at (show (a.e.getD c (0, 0, 0)).2.1.toNat < h.n.length by omega) 0, hR.n.old_at (show (a.e.getD c (0, 0, 0)).2.2.toNat < h.n.length by omega) 0,
        if_neg (by omega), if_neg (by rw [n.2.2.1]; simp), if_neg (by rw [n.2.2.2.1, n.2.2.2.2]; simp)]
    · have hj' : j < b.e.length := by omega
      have n := mErr_edge g2 hj'
      have r := edge_in o2.1 hj'
      have e := hG.e.new_at (0, 0, 0) hj' j2
      rw [j3, Int.toNat_natCast] at e
      have b1 := rest_back hR.n (show (b.e.getD j (0, 0, 0)).2.1.toNat < k.n.length by omega)
      have b2 := rest_back hR.n (show (b.e.getD j (0, 0, 0)).2.2.toNat < k.n.length by omega)
      rw [c2, e]
      unfold edF
      dsimp only
      rw [b1, b2, if_neg (by omega), if_neg (by rw [n.2.2.1]; simp), if_neg (by rw [n.2.2.2.1, n.2.2.2.2]; simp)]
  have rn : ∀ y ∈ (rst h k (plc h.n k.n) (plc h.e k.e)).n, 0 ≤ y ∧ y < x.n.length := by
    intro y hy
    obtain ⟨c, hc, rfl⟩ := List.mem_iff_getElem.1 hy
    have := nin c (by omega)
    rw [nodeErr] at this
    split at this
    · cases this
    · rename_i h5
      rw [getD_at hc] at h5
      omega
  have re : ∀ y ∈ (rst h k (plc h.n k.n) (plc h.e k.e)).e, 0 ≤ y ∧ y < x.e.length := by
    intro y hy
    obtain ⟨c, hc, rfl⟩ := List.mem_iff_getElem.1 hy
    have := ein c (by omega)
    rw [edgeErr] at this
    split at this
    · cases this
    · rename_i h5
      rw [getD_at hc] at h5
      omega
  have sn := dist_le dn rn
  have se := dist_le de re
  have hs : (glue a b (plc h.n k.n) (plc h.e k.e)).g.n.length ≤ 40 ∧ (glue a b (plc h.n k.n) (plc h.e k.e)).g.e.length ≤ 80 := by omega
  have gv := glue_valid (p := (plc h.n k.n, plc h.e k.e)) o1.1 o2.1 hs hM
  have ml := glue_left (p := (plc h.n k.n, plc h.e k.e)) o1.1 o2.1 hs hM
  have mr := glue_right (p := (plc h.n k.n, plc h.e k.e)) o1.1 o2.1 hs hM
  have m3 : mErr (glue a b (plc h.n k.n) (plc h.e k.e)).g x (rst h k (plc h.n k.n) (plc h.e k.e)) = 0 := mErr_zero gv o1.2.1 hln hle nin ein
  refine ⟨?_, ?_, ?_⟩
  · rw [cmpR, if_neg (by simp [ml]), if_neg (by simp [m3]), thn]
    refine Prod.ext ?_ rfl
    have l1 : (glue a b (plc h.n k.n) (plc h.e k.e)).l.n = rng a.n.length := rfl
    have l2 : (glue a b (plc h.n k.n) (plc h.e k.e)).l.e = rng a.e.length := rfl
    have t1 : thr (rng a.n.length) (rst h k (plc h.n k.n) (plc h.e k.e)).n = h.n := thr_eq (by rw [rng_len]; omega) fun j hj => by
      rw [rng_at (by omega), Int.toNat_natCast, hR.n.old_at hj]
    have t2 : thr (rng a.e.length) (rst h k (plc h.n k.n) (plc h.e k.e)).e = h.e := thr_eq (by rw [rng_len]; omega) fun j hj => by
      rw [rng_at (by omega), Int.toNat_natCast, hR.e.old_at hj]
    rw [l1, l2, t1, t2]
  · rw [cmpR, if_neg (by simp [mr]), if_neg (by simp [m3]), thn]
    refine Prod.ext ?_ rfl
    have t1 : thr (glue a b (plc h.n k.n) (plc h.e k.e)).r.n (rst h k (plc h.n k.n) (plc h.e k.e)).n = k.n := thr_eq hR.n.len fun j hj => rest_back hR.n hj
    have t2 : thr (glue a b (plc h.n k.n) (plc h.e k.e)).r.e (rst h k (plc h.n k.n) (plc h.e k.e)).e = k.e := thr_eq hR.e.len fun j hj => rest_back hR.e hj
    rw [t1, t2]
  · rw [injR, m3, dn, de]
    rfl
end Go.Sy
