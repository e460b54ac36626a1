/- Plain law: what the overlap by a pair of matchings is. -/
import Derived.Test.YtkhheblmgbiniaaM2
import Derived.Test.YtkhheblmgbiniaaWP
namespace Go.Sy
open Go Go.Proofs

def gG {α : Type} (a : List α) (f : Nat → α) (q : List Int) : Nat → List α × List Int
  | 0 => (a, [])
  | i + 1 => if q.getD i 0 < 0 then ((gG a f q i).1 ++ [f i], (gG a f q i).2 ++ [((gG a f q i).1.length : Int)]) else ((gG a f q i).1, (gG a f q i).2 ++ [q.getD i 0])
theorem gN_gG (a bn q : List Int) (i : Nat) : gN a bn q i = gG a (fun j => bn.getD j 0) q i := by
  induction i with
  | zero => rfl
  | succ i ih => rw [gN, gG, ih]
def edF (be : List Ed) (R : List Int) (j : Nat) : Ed := ((be.getD j (0, 0, 0)).1, R.getD (be.getD j (0, 0, 0)).2.1.toNat 0, R.getD (be.getD j (0, 0, 0)).2.2.toNat 0)
theorem gE_gG (a be : List Ed) (R q : List Int) (i : Nat) : gE a be R q i = gG a (edF be R) q i := by
  induction i with
  | zero => rfl
  | succ i ih => rw [gE, gG, ih]; rfl
structure GS {α : Type} (a : List α) (f : Nat → α) (q : List Int) (i : Nat) (L : List α) (R : List Int) : Prop where
  len : R.length = i
  pre : ∃ t, L = a ++ t
  val : ∀ j, j < i → 0 ≤ R.getD j 0 ∧ (R.getD j 0).toNat < L.length
  old : ∀ j, j < i → ¬ q.getD j 0 < 0 → R.getD j 0 = q.getD j 0
  new : ∀ j, j < i → q.getD j 0 < 0 → (a.length : Int) ≤ R.getD j 0 ∧ L[(R.getD j 0).toNat]? = some (f j)
  lt : ∀ j k, j < k → k < i → q.getD j 0 < 0 → q.getD k 0 < 0 → R.getD j 0 < R.getD k 0
  cov : ∀ c : Nat, a.length ≤ c → c < L.length → ∃ j, j < i ∧ q.getD j 0 < 0 ∧ R.getD j 0 = (c : Int)
  up : L.length ≤ a.length + i
theorem gG_spec {α : Type} {a : List α} {f : Nat → α} {q : List Int} {n : Nat} (hq : ∀ j, j < n → q.getD j 0 < 0 ∨ (0 ≤ q.getD j 0 ∧ (q.getD j 0).toNat < a.length)) : ∀ i, i ≤ n → GS a f q i (gG a f q i).1 (gG a f q i).2
  | 0, _ => ⟨rfl, ⟨[], by simp [gG]⟩, fun j h => by omega, fun j h => by omega, fun j h => by omega, fun j k _ h => by omega, fun c h1 h2 => by simp [gG] at h2; omega, by simp [gG]⟩
  | i + 1, hi => by
    obtain ⟨h1, ⟨t, h2⟩, h3, h4, h5, h6, h7, h8⟩ := gG_spec (f := f) hq i (by omega)
    rw [gG]
    generalize (gG a f q i).1 = L at *
    generalize (gG a f q i).2 = R at *
    have gl : ∀ (x : Int) (j : Nat), j < i → (R ++ [x]).getD j 0 = R.getD j 0 := fun x j hj => getD_app_lt (by omega)
    have ge : ∀ (x : Int), (R ++ [x]).getD i 0 = x := fun x => getD_app_eq h1
    have la : a.length ≤ L.length := by rw [h2]; simp
    split
    · rename_i hneg
      refine ⟨by simp [h1], ⟨t ++ [f i], by rw [h2]; simp⟩, fun j hj => ?_, fun j hj hn => ?_, fun j hj hn => ?_, fun j k hjk hk hn hm => ?_, fun c hc1 hc2 => ?_, by simp; omega⟩
      · by_cases hji : j = i
        · simp only [hji, ge]
          refine ⟨by omega, by simp⟩
        · simp only [gl _ j (by omega)]
          have := h3 j (by omega)
          have l1 : (L ++ [f i]).length = L.length + 1 := by simp
          exact ⟨this.1, by rw [l1]; omega⟩
      · have hji : j ≠ i := fun e => hn (e ▸ hneg)
        simp only [gl _ j (by omega)]
        exact h4 j (by omega) hn
      · by_cases hji : j = i
        · simp only [hji, ge]
          refine ⟨by omega, by simp⟩
        · simp only [gl _ j (by omega)]
          have := h5 j (by omega) hn
          refine ⟨this.1, ?_⟩
          rw [List.getElem?_append_left (List.getElem?_eq_some_iff.1 this.2).1]
          exact this.2
      · by_cases hki : k = i
        · simp only [hki, ge, gl _ j (by omega)]
          have := h3 j (by omega)
          omega
        · simp only [gl _ k (by omega), gl _ j (by omega)]
          exact h6 j k hjk (by omega) hn hm
      · by_cases hcl : c < L.length
        · obtain ⟨j, j1, j2, j3⟩ := h7 c hc1 hcl
          exact ⟨j, by omega, j2, by rw [gl _ j j1]; exact j3⟩
        · simp at hc2
          exact ⟨i, by omega, hneg, by rw [ge]; omega⟩
    · rename_i hneg
      have hqi := (hq i (by omega)).resolve_left hneg
      refine ⟨by simp [h1], ⟨t, h2⟩, fun j hj => ?_, fun j hj hn => ?_, fun j hj hn => ?_, fun j k hjk hk hn hm => ?_, fun c hc1 hc2 => ?_, by show L.length ≤ _; omega⟩
      · by_cases hji : j = i
        · simp only [hji, ge]
          exact ⟨hqi.1, by omega⟩
        · simp only [gl _ j (by omega)]
          exact h3 j (by omega)
      · by_cases hji : j = i
        · simp only [hji, ge]
        · simp only [gl _ j (by omega)]
          exact h4 j (by omega) hn
      · have hji : j ≠ i := fun e => hneg (e ▸ hn)
        simp only [gl _ j (by omega)]
        exact h5 j (by omega) hn
      · have hki : k ≠ i := fun e => hneg (e ▸ hm)
        simp only [gl _ k (by omega), gl _ j (by omega)]
        exact h6 j k hjk (by omega) hn hm
      · obtain ⟨j, j1, j2, j3⟩ := h7 c hc1 hc2
        exact ⟨j, by omega, j2, by rw [gl _ j j1]; exact j3⟩
theorem GS.mem {α : Type} {a : List α} {f : Nat → α} {q : List Int} {i : Nat} {L : List α} {R : List Int} (h : GS a f q i L R) {x : α} (hx : x ∈ L) : x ∈ a ∨ ∃ j, j < i ∧ q.getD j 0 < 0 ∧ x = f j := by
  obtain ⟨c, hc, rfl⟩ := List.mem_iff_getElem.1 hx
  obtain ⟨t, ht⟩ := h.pre
  by_cases hca : c < a.length
  · left
    subst ht
    rw [List.getElem_append_left hca]
    exact List.getElem_mem hca
  · right
    obtain ⟨j, j1, j2, j3⟩ := h.cov c (by omega) hc
    have := (h.new j j1 j2).2
    rw [j3, Int.toNat_natCast, List.getElem?_eq_getElem hc] at this
    exact ⟨j, j1, j2, Option.some.inj this⟩
theorem GS.old_at {α : Type} {a : List α} {f : Nat → α} {q : List Int} {i : Nat} {L : List α} {R : List Int} (h : GS a f q i L R) {c : Nat} (hc : c < a.length) (d : α) : L.getD c d = a.getD c d := by
  obtain ⟨t, ht⟩ := h.pre
  rw [ht, getD_at (by simp; omega), getD_at hc, List.getElem_append_left hc]
theorem GS.len_le {α : Type} {a : List α} {f : Nat → α} {q : List Int} {i : Nat} {L : List α} {R : List Int} (h : GS a f q i L R) : a.length ≤ L.length := by
  obtain ⟨t, ht⟩ := h.pre
  rw [ht]
  simp
theorem PI.ok {n m : Nat} {R : Nat → Nat → Prop} {q : List Int} (h : PI n m R q) : ∀ j, j < n → q.getD j 0 < 0 ∨ (0 ≤ q.getD j 0 ∧ (q.getD j 0).toNat < m) := by
  intro j hj
  rcases h.val j hj with h1 | ⟨k, hk, h1, _⟩
  · exact .inl (by omega)
  · exact .inr ⟨by omega, by omega⟩
theorem PI.rel {n m : Nat} {R : Nat → Nat → Prop} {q : List Int} (h : PI n m R q) {j : Nat} (hj : j < n) (h0 : ¬ q.getD j 0 < 0) : R j (q.getD j 0).toNat := by
  rcases h.val j hj with h1 | ⟨k, hk, h1, h2⟩
  · omega
  · rw [h1]; exact h2
theorem GS.dist {α : Type} {a : List α} {f : Nat → α} {q : List Int} {n : Nat} {L : List α} {R : List Int} {Q : Nat → Nat → Prop} (h : GS a f q n L R) (hq : PI n a.length Q q) : dist R = true := by
  refine dist_yes fun i hi k hk he => ?_
  rw [h.len] at hi
  have hkn : k < n := by omega
  by_cases h1 : q.getD i 0 < 0
  · have a1 := (h.new i hi h1).1
    by_cases h2 : q.getD k 0 < 0
    · have := h.lt k i hk hi h2 h1
      omega
    · rw [h.old k hkn h2] at he
      have := (hq.ok k hkn).resolve_left h2
      omega
  · rw [h.old i hi h1] at he
    have b1 := (hq.ok i hi).resolve_left h1
    by_cases h2 : q.getD k 0 < 0
    · have := (h.new k hkn h2).1
      omega
    · rw [h.old k hkn h2] at he
      have := hq.inj k i hk hi he.symm
      omega
theorem rng_at {n i : Nat} (h : i < n) : (rng n).getD i 0 = (i : Int) := by
  rw [rng, getD_at (by simpa using h)]
  simp
theorem rng_len (n : Nat) : (rng n).length = n := by simp [rng]
theorem dist_rng (n : Nat) : dist (rng n) = true := by
  refine dist_yes fun i hi k hk he => ?_
  rw [rng_len] at hi
  rw [rng_at hi, rng_at (by omega)] at he
  omega
theorem contains_at {l : List Int} {j : Nat} {x : Int} (h : j < l.length) (e : l.getD j 0 = x) : l.contains x = true := by
  rw [List.contains_iff_mem, ← e, getD_at h]
  exact List.getElem_mem h
theorem GS.cover {α : Type} {a : List α} {f : Nat → α} {q : List Int} {n : Nat} {L : List α} {R : List Int} (h : GS a f q n L R) : Go.Sy.cov L.length (rng a.length) R = true := by
  refine cov_yes fun c hc => ?_
  by_cases hca : c < a.length
  · rw [contains_at (l := rng a.length) (j := c) (by rw [rng_len]; exact hca) (rng_at hca)]
    rfl
  · obtain ⟨j, j1, _, j3⟩ := h.cov c (by omega) hc
    rw [contains_at (l := R) (j := j) (by rw [h.len]; exact j1) j3, Bool.or_true]
/-- What overlap a pair of matchings gives. -/
structure GlueOK (a b : Gr) (p : List Int × List Int) : Prop where
  n : GS a.n (fun j => b.n.getD j 0) p.1 b.n.length (glue a b p.1 p.2).g.n (glue a b p.1 p.2).r.n
  e : GS a.e (edF b.e (glue a b p.1 p.2).r.n) p.2 b.e.length (glue a b p.1 p.2).g.e (glue a b p.1 p.2).r.e
theorem glue_ok {a b : Gr} {p : List Int × List Int} (h : isM a b p) : GlueOK a b p := by
  obtain ⟨h1, h2⟩ := h
  constructor
  · show GS _ _ _ _ (gN a.n b.n p.1 p.1.length).1 (gN a.n b.n p.1 p.1.length).2
    rw [h1.len, gN_gG]
    exact gG_spec h1.ok _ (Nat.le_refl _)
  · show GS _ (edF b.e (gN a.n b.n p.1 p.1.length).2) _ _ (gE a.e b.e (gN a.n b.n p.1 p.1.length).2 p.2 p.2.length).1 (gE a.e b.e (gN a.n b.n p.1 p.1.length).2 p.2 p.2.length).2
    rw [h2.len, gE_gG]
    exact gG_spec h2.ok _ (Nat.le_refl _)
theorem edOK_mono {n m : Nat} {x : Ed} (h : edOK n x) (hnm : n ≤ m) : edOK m x := by
  unfold edOK at h ⊢
  omega
theorem glue_small {a b : Gr} {p : List Int × List Int} (hs : a.n.length + b.n.length ≤ 40 ∧ a.e.length + b.e.length ≤ 80) (h : isM a b p) : (glue a b p.1 p.2).g.n.length ≤ 40 ∧ (glue a b p.1 p.2).g.e.length ≤ 80 := by
  have hg := glue_ok h
  have un := hg.n.up
  have ue := hg.e.up
  omega
theorem glue_valid {a b : Gr} {p : List Int × List Int} (ha : gErr a = 0) (hb : gErr b = 0) (hs : (glue a b p.1 p.2).g.n.length ≤ 40 ∧ (glue a b p.1 p.2).g.e.length ≤ 80) (h : isM a b p) : gErr (glue a b p.1 p.2).g = 0 := by
  obtain ⟨_, va1, va2⟩ := gErr_small ha
  obtain ⟨_, vb1, vb2⟩ := gErr_small hb
  have hg := glue_ok h
  have un := hg.n.up
  have ue := hg.e.up
  have ll := hg.n.len_le
  rw [gErr, if_pos (by omega), if_pos]
  refine ⟨fun t ht => ?_, fun x hx => ?_⟩
  · rcases hg.n.mem ht with h1 | ⟨j, j1, _, rfl⟩
    · exact va1 t h1
    · show 0 ≤ b.n.getD j 0 ∧ b.n.getD j 0 ≤ 99
      rw [getD_at j1]
      exact vb1 _ (List.getElem_mem j1)
  · rcases hg.e.mem hx with h1 | ⟨j, j1, _, rfl⟩
    · exact edOK_mono (va2 x h1) ll
    · have hv := vb2 _ (List.getElem_mem j1)
      have v1 := hg.n.val b.e[j].2.1.toNat (by have := hv.2; omega)
      have v2 := hg.n.val b.e[j].2.2.toNat (by have := hv.2; omega)
      unfold edF edOK
      rw [getD_at j1]
      refine ⟨hv.1, v1.1, ?_, v2.1, ?_⟩
      · show (glue a b p.1 p.2).r.n.getD b.e[j].2.1.toNat 0 < _
        omega
      · show (glue a b p.1 p.2).r.n.getD b.e[j].2.2.toNat 0 < _
        omega
theorem mErr_zero {a b : Gr} {m : Mo} (ha : gErr a = 0) (hb : gErr b = 0) (h1 : m.n.length = a.n.length) (h2 : m.e.length = a.e.length) (h3 : ∀ i, i < a.n.length → nodeErr a b m i = 0) (h4 : ∀ i, i < a.e.length → edgeErr a b m i = 0) : mErr a b m = 0 := by
  rw [mErr, if_neg (by simp [ha]), if_neg (by simp [hb]), if_neg (by omega), firstErr_zero h3, if_neg (by simp), firstErr_zero h4]
theorem glue_left {a b : Gr} {p : List Int × List Int} (ha : gErr a = 0) (hb : gErr b = 0) (hs : (glue a b p.1 p.2).g.n.length ≤ 40 ∧ (glue a b p.1 p.2).g.e.length ≤ 80) (h : isM a b p) : mErr a (glue a b p.1 p.2).g (glue a b p.1 p.2).l = 0 := by
  obtain ⟨_, va1, va2⟩ := gErr_small ha
  have hg := glue_ok h
  have ln := hg.n.len_le
  have le := hg.e.len_le
  refine mErr_zero ha (glue_valid ha hb hs h) (rng_len _) (rng_len _) (fun i hi => ?_) (fun i hi => ?_)
  · have e : (glue a b p.1 p.2).l.n.getD i 0 = (i : Int) := rng_at hi
    rw [nodeErr, e, if_neg (by omega), Int.toNat_natCast, hg.n.old_at hi, if_neg (by simp)]
  · have e : (glue a b p.1 p.2).l.e.getD i 0 = (i : Int) := rng_at hi
    have hv := (va2 _ (List.getElem_mem hi)).2
    have e1 : (glue a b p.1 p.2).l.n.getD a.e[i].2.1.toNat 0 = a.e[i].2.1 := by
      have : (glue a b p.1 p.2).l.n.getD a.e[i].2.1.toNat 0 = (a.e[i].2.1.toNat : Int) := rng_at (by omega)
      omega
    have e2 : (glue a b p.1 p.2).l.n.getD a.e[i].2.2.toNat 0 = a.e[i].2.2 := by
      have : (glue a b p.1 p.2).l.n.getD a.e[i].2.2.toNat 0 = (a.e[i].2.2.toNat : Int) := rng_at (by omega)
      omega
    rw [edgeErr, e, if_neg (by omega), Int.toNat_natCast, hg.e.old_at hi, if_neg (by simp), getD_at hi, e1, e2, if_neg (by simp)]
theorem glue_right {a b : Gr} {p : List Int × List Int} (ha : gErr a = 0) (hb : gErr b = 0) (hs : (glue a b p.1 p.2).g.n.length ≤ 40 ∧ (glue a b p.1 p.2).g.e.length ≤ 80) (h : isM a b p) : mErr b (glue a b p.1 p.2).g (glue a b p.1 p.2).r = 0 := by
  obtain ⟨_, va1, va2⟩ := gErr_small ha
  obtain ⟨_, vb1, vb2⟩ := gErr_small hb
  have hg := glue_ok h
  refine mErr_zero hb (glue_valid ha hb hs h) hg.n.len hg.e.len (fun i hi => ?_) (fun i hi => ?_)
  · have v := hg.n.val i hi
    rw [nodeErr, if_neg (by omega), if_neg]
    simp only [ne_eq, Decidable.not_not]
    by_cases h0 : p.1.getD i 0 < 0
    · have := (hg.n.new i hi h0).2
      rw [List.getD_eq_getElem?_getD, this]
      rfl
    · have h1 := (h.1.ok i hi).resolve_left h0
      rw [hg.n.old i hi h0, hg.n.old_at h1.2]
      exact h.1.rel hi h0
  · have v := hg.e.val i hi
    have hv := (vb2 _ (List.getElem_mem hi)).2
    rw [edgeErr, if_neg (by omega)]
    by_cases h0 : p.2.getD i 0 < 0
    · have := (hg.e.new i hi h0).2
      rw [List.getD_eq_getElem?_getD (l := (glue a b p.1 p.2).g.e), this]
      simp [edF]
    · have h1 := (h.2.ok i hi).resolve_left h0
      have hr : a.e.getD (p.2.getD i 0).toNat (0, 0, 0) = _ := h.2.rel hi h0
      have hm := va2 _ (List.getElem_mem h1.2)
      rw [← getD_at h1.2 (d := (0, 0, 0))] at hm
      rw [hr] at hm
      rw [hg.e.old i hi h0, hg.e.old_at h1.2, hr]
      rw [getD_at hi] at hm ⊢
      have hm1 : 0 ≤ p.1.getD b.e[i].2.1.toNat 0 := hm.2.1
      have hm2 : 0 ≤ p.1.getD b.e[i].2.2.toNat 0 := hm.2.2.2.1
      rw [hg.n.old b.e[i].2.1.toNat (by omega) (by omega), hg.n.old b.e[i].2.2.toNat (by omega) (by omega)]
      simp
theorem glue_inj {a b : Gr} {p q : List Int × List Int} (hp : isM a b p) (hq : isM a b q) (h : glue a b p.1 p.2 = glue a b q.1 q.2) : p = q := by
  have gp := glue_ok hp
  have gq := glue_ok hq
  have rec1 : ∀ {n m : Nat} {Q Q' : Nat → Nat → Prop} {α : Type} {a : List α} {f f' : Nat → α} {x y : List Int} {L L' : List α} {R : List Int}, GS a f x n L R → GS a f' y n L' R → PI n a.length Q x → PI n a.length Q' y → x = y := by
    intro n m Q Q' α a f f' x y L L' R g1 g2 p1 p2
    refine List.ext_getElem (by rw [p1.len, p2.len]) fun i h1 h2 => ?_
    rw [← getD_at h1 (d := 0), ← getD_at h2 (d := 0)]
    have hi : i < n := by rw [← p1.len]; exact h1
    have neg : ∀ {Q : Nat → Nat → Prop} {z : List Int}, PI n a.length Q z → z.getD i 0 < 0 → z.getD i 0 = -1 := fun hz h0 => by
      rcases hz.val i hi with h3 | ⟨k, _, h3, _⟩
      · exact h3
      · omega
    by_cases c1 : x.getD i 0 < 0
    · have e1 := (g1.new i hi c1).1
      by_cases c2 : y.getD i 0 < 0
      · rw [neg p1 c1, neg p2 c2]
      · have := (p2.ok i hi).resolve_left c2
        rw [g2.old i hi c2] at e1
        omega
    · by_cases c2 : y.getD i 0 < 0
      · have e2 := (g2.new i hi c2).1
        have := (p1.ok i hi).resolve_left c1
        rw [g1.old i hi c1] at e2
        omega
      · rw [← g1.old i hi c1, ← g2.old i hi c2]
  have hr : (glue a b p.1 p.2).r = (glue a b q.1 q.2).r := by rw [h]
  have g1 := gp.n
  have g2 := gq.n
  have g3 := gp.e
  have g4 := gq.e
  rw [hr] at g1 g3
  exact Prod.ext (rec1 (m := 0) g1 g2 hp.1 hq.1) (rec1 (m := 0) g3 g4 hp.2 hq.2)
theorem glue_all {a b : Gr} {p : List Int × List Int} (ha : gErr a = 0) (hb : gErr b = 0) (hs : (glue a b p.1 p.2).g.n.length ≤ 40 ∧ (glue a b p.1 p.2).g.e.length ≤ 80) (h : isM a b p) :
    injR a (glue a b p.1 p.2).g (glue a b p.1 p.2).l = true ∧ injR b (glue a b p.1 p.2).g (glue a b p.1 p.2).r = true ∧ jnt a b (glue a b p.1 p.2).g (glue a b p.1 p.2).l (glue a b p.1 p.2).r = true := by
  have hg := glue_ok h
  have m1 := glue_left ha hb hs h
  have m2 := glue_right ha hb hs h
  have d1 : dist (glue a b p.1 p.2).l.n = true := dist_rng _
  have d2 : dist (glue a b p.1 p.2).l.e = true := dist_rng _
  have d3 := hg.n.dist h.1
  have d4 := hg.e.dist h.2
  have c1 : cov (glue a b p.1 p.2).g.n.length (glue a b p.1 p.2).l.n (glue a b p.1 p.2).r.n = true := hg.n.cover
  have c2 : cov (glue a b p.1 p.2).g.e.length (glue a b p.1 p.2).l.e (glue a b p.1 p.2).r.e = true := hg.e.cover
  unfold injR jnt
  rw [m1, m2, d1, d2, d3, d4, c1, c2]
  exact ⟨rfl, rfl, rfl⟩
/-! ### The first -/
theorem genL_head {ok : List Int → Int → Bool} {m : Nat} (hok : ∀ l, ok l (-1) = true) : ∀ (k : Nat) (l : List Int), (genL ok m k l).head? = some (l ++ List.replicate k (-1))
  | 0, l => by simp [genL]
  | k + 1, l => by
    rw [genL, List.range_succ_eq_map, List.flatMap_cons]
    have e : (((0 : Nat) : Int) - 1) = -1 := rfl
    rw [e, if_pos (hok l), List.head?_append, genL_head hok k]
    simp [List.replicate_succ]
theorem flat_head {α β : Type} {f : α → List β} {l : List α} {x : α} {y : β} (h1 : l.head? = some x) (h2 : (f x).head? = some y) : (l.flatMap f).head? = some y := by
  cases l with
  | nil => simp at h1
  | cons z l =>
    simp at h1
    subst h1
    rw [List.flatMap_cons, List.head?_append, h2]
    rfl
theorem ovP_head (a b : Gr) : (ovP a b).head? = some (List.replicate b.n.length (-1), List.replicate b.e.length (-1)) := by
  refine flat_head (x := List.replicate b.n.length (-1)) ?_ ?_
  · have := genL_head (ok := oN a b) (m := a.n.length) (fun l => by simp [oN, okN]) b.n.length []
    simpa using this
  · rw [List.head?_map]
    have := genL_head (ok := oE a b (List.replicate b.n.length (-1))) (m := a.e.length) (fun l => by simp [oE, okE]) b.e.length []
    rw [this]
    simp
theorem gN_neg_len (a bn : List Int) (n : Nat) : ∀ i, i ≤ n → (gN a bn (List.replicate n (-1)) i).1.length = a.length + i
  | 0, _ => rfl
  | i + 1, hi => by
    have : (List.replicate n (-1 : Int)).getD i 0 = -1 := by rw [getD_at (by simp; omega)]; simp
    rw [gN, this, if_pos (by decide)]
    simp [gN_neg_len a bn n i (by omega)]
    omega
theorem glue_first (a b : Gr) (es : List Int) : (glue a b (List.replicate b.n.length (-1)) es).g.n.length = a.n.length + b.n.length := by
  show (gN a.n b.n (List.replicate b.n.length (-1)) (List.replicate b.n.length (-1 : Int)).length).1.length = _
  rw [List.length_replicate]
  exact gN_neg_len _ _ _ _ (Nat.le_refl _)
end Go.Sy
