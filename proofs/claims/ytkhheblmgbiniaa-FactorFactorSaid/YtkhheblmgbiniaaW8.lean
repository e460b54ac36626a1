/- Contracts: the program's own validity of graphs; identities. -/
import Derived.Test.YtkhheblmgbiniaaW7
set_option linter.unusedSimpArgs false
namespace Go.Sy
open Go Go.Proofs

def capB (B : Option Box) (r : Option (List AV)) : Option (List AV) := match B with | some ⟨l, true⟩ => if (l.all clean) = true then r.map (.ptr l :: ·) else none | _ => none
theorem capB_some (l : List AV) (r : Option (List AV)) : capB (some ⟨l, true⟩) r = if (l.all clean) = true then r.map (.ptr l :: ·) else none := rfl
theorem capAV_nil (s : St) : capAV s [] = some [] := rfl
theorem capAV_box (s : St) (k : Key) (r : List AV) : capAV s (.box k 0 :: r) = capB (s.b k) (capAV s r) := rfl
theorem capAV_ptr (s : St) (l : List AV) (r : List AV) : capAV s (.ptr l :: r) = (capAV s r).map (.ptr l :: ·) := rfl
attribute [go_sem] List.foldl_nil List.foldl_cons capB_some capAV_nil capAV_box capAV_ptr Option.map_some
theorem c114 (n m : Int) : Con Try.prog 114 [iv n, iv m] 0 (bv (decide (0 ≤ n ∧ n ≤ m))) := by
  refine conT (X := []) (rs := [.tmp 4]) Try.func114 (by kernel_rfl) rfl rfl (by kernel_rfl) ?_
  simp (dsimp := false) (maxDischargeDepth := 16) only [go_sem, ↓reduceIte, reduceCtorEq, Nat.reduceEqDiff, Nat.reduceAdd, Nat.reduceMul, Nat.reduceSub, Nat.reduceLT, Nat.reduceLeDiff, Nat.reducePow, Int.reduceLT, Int.reduceLE, Int.reduceNeg, Int.reduceToNat]
  refine condK_dec (fun h1 => ?_) (fun h1 => ?_)
  · simp (dsimp := false) (maxDischargeDepth := 16) only [go_sem, ↓reduceIte, reduceCtorEq, Nat.reduceEqDiff, Nat.reduceAdd, Nat.reduceMul, Nat.reduceSub, Nat.reduceLT, Nat.reduceLeDiff, Nat.reducePow, Int.reduceLT, Int.reduceLE, Int.reduceNeg, Int.reduceToNat, h1]; exact finP (by omega)
  · simp (dsimp := false) (maxDischargeDepth := 16) only [go_sem, ↓reduceIte, reduceCtorEq, Nat.reduceEqDiff, Nat.reduceAdd, Nat.reduceMul, Nat.reduceSub, Nat.reduceLT, Nat.reduceLeDiff, Nat.reducePow, Int.reduceLT, Int.reduceLE, Int.reduceNeg, Int.reduceToNat, h1]; first | exact finB rfl | exact finF' (by omega)
theorem c113 (n : Int) : Con Try.prog 113 [iv n] 0 (bv (!decide (0 ≤ n ∧ n ≤ 99))) := by
  refine conT (X := []) (rs := [.tmp 2]) Try.func113 (by kernel_rfl) rfl rfl (by kernel_rfl) ?_
  simp (dsimp := false) (maxDischargeDepth := 16) only [go_sem, ↓reduceIte, reduceCtorEq, Nat.reduceEqDiff, Nat.reduceAdd, Nat.reduceMul, Nat.reduceSub, Nat.reduceLT, Nat.reduceLeDiff, Nat.reducePow, Int.reduceLT, Int.reduceLE, Int.reduceNeg, Int.reduceToNat]
  refine callK_intro (c114 _ _) ?_
  simp (dsimp := false) (maxDischargeDepth := 16) only [go_sem, ↓reduceIte, reduceCtorEq, Nat.reduceEqDiff, Nat.reduceAdd, Nat.reduceMul, Nat.reduceSub, Nat.reduceLT, Nat.reduceLeDiff, Nat.reducePow, Int.reduceLT, Int.reduceLE, Int.reduceNeg, Int.reduceToNat]
  exact finB rfl
theorem wrapP (n : Int) (h : 0 ≤ n) (h2 : n ≤ 1000000) : IntKind.i64.wrap (n - 1) = n - 1 := wrap_i64 _ (by omega) (by omega)
theorem c117 (x : Ed) (n : Int) (h : 0 ≤ n) (h2 : n ≤ 1000000) : Con Try.prog 117 [.agg (ecs x), iv n] 0 (bv (decide (edOK n x))) := by
  refine conT (X := []) (rs := [.tmp 4]) Try.func117 (by kernel_rfl) rfl rfl (by kernel_rfl) ?_
  simp (dsimp := false) (maxDischargeDepth := 16) only [go_sem, ↓reduceIte, reduceCtorEq, Nat.reduceEqDiff, Nat.reduceAdd, Nat.reduceMul, Nat.reduceSub, Nat.reduceLT, Nat.reduceLeDiff, Nat.reducePow, Int.reduceLT, Int.reduceLE, Int.reduceNeg, Int.reduceToNat]
  refine callK_intro (c114 _ _) ?_
  simp (dsimp := false) (maxDischargeDepth := 16) only [go_sem, ↓reduceIte, reduceCtorEq, Nat.reduceEqDiff, Nat.reduceAdd, Nat.reduceMul, Nat.reduceSub, Nat.reduceLT, Nat.reduceLeDiff, Nat.reducePow, Int.reduceLT, Int.reduceLE, Int.reduceNeg, Int.reduceToNat]
  refine condK_dec (fun h1 => ?_) (fun h1 => ?_)
  · simp (dsimp := false) (maxDischargeDepth := 16) only [go_sem, ↓reduceIte, reduceCtorEq, Nat.reduceEqDiff, Nat.reduceAdd, Nat.reduceMul, Nat.reduceSub, Nat.reduceLT, Nat.reduceLeDiff, Nat.reducePow, Int.reduceLT, Int.reduceLE, Int.reduceNeg, Int.reduceToNat, h1]
    refine callK_intro (c114 _ _) ?_
    simp (dsimp := false) (maxDischargeDepth := 16) only [go_sem, ↓reduceIte, reduceCtorEq, Nat.reduceEqDiff, Nat.reduceAdd, Nat.reduceMul, Nat.reduceSub, Nat.reduceLT, Nat.reduceLeDiff, Nat.reducePow, Int.reduceLT, Int.reduceLE, Int.reduceNeg, Int.reduceToNat, h1]
    refine condK_dec (fun h3 => ?_) (fun h3 => ?_)
    · simp (dsimp := false) (maxDischargeDepth := 16) only [go_sem, ↓reduceIte, reduceCtorEq, Nat.reduceEqDiff, Nat.reduceAdd, Nat.reduceMul, Nat.reduceSub, Nat.reduceLT, Nat.reduceLeDiff, Nat.reducePow, Int.reduceLT, Int.reduceLE, Int.reduceNeg, Int.reduceToNat, h1, h3]
      refine callK_intro (c114 _ _) ?_
      simp (dsimp := false) (maxDischargeDepth := 16) only [go_sem, ↓reduceIte, reduceCtorEq, Nat.reduceEqDiff, Nat.reduceAdd, Nat.reduceMul, Nat.reduceSub, Nat.reduceLT, Nat.reduceLeDiff, Nat.reducePow, Int.reduceLT, Int.reduceLE, Int.reduceNeg, Int.reduceToNat, h1, h3]
      rw [wrapP n h h2] at *
      exact finP (by simp only [edOK]; omega)
    · simp (dsimp := false) (maxDischargeDepth := 16) only [go_sem, ↓reduceIte, reduceCtorEq, Nat.reduceEqDiff, Nat.reduceAdd, Nat.reduceMul, Nat.reduceSub, Nat.reduceLT, Nat.reduceLeDiff, Nat.reducePow, Int.reduceLT, Int.reduceLE, Int.reduceNeg, Int.reduceToNat, h1, h3]
      rw [wrapP n h h2] at *
      first | exact finB rfl | exact finF' (by simp only [edOK]; omega)
  · simp (dsimp := false) (maxDischargeDepth := 16) only [go_sem, ↓reduceIte, reduceCtorEq, Nat.reduceEqDiff, Nat.reduceAdd, Nat.reduceMul, Nat.reduceSub, Nat.reduceLT, Nat.reduceLeDiff, Nat.reducePow, Int.reduceLT, Int.reduceLE, Int.reduceNeg, Int.reduceToNat, h1]; first | exact finB rfl | exact finF' (by simp only [edOK]; omega)
theorem c116 (x : Ed) (g : Gr) (h : g.n.length ≤ 1000000) : Con Try.prog 116 [.agg (ecs x), .ptr (gcs g)] 0 (bv (!decide (edOK g.n.length x))) := by
  refine conT (X := []) (rs := [.tmp 3]) Try.func116 (by kernel_rfl) rfl rfl (by kernel_rfl) ?_
  simp (dsimp := false) (maxDischargeDepth := 16) only [go_sem, ↓reduceIte, reduceCtorEq, Nat.reduceEqDiff, Nat.reduceAdd, Nat.reduceMul, Nat.reduceSub, Nat.reduceLT, Nat.reduceLeDiff, Nat.reducePow, Int.reduceLT, Int.reduceLE, Int.reduceNeg, Int.reduceToNat]
  refine callK_intro (c117 x g.n.length (by omega) (by omega)) ?_
  simp (dsimp := false) (maxDischargeDepth := 16) only [go_sem, ↓reduceIte, reduceCtorEq, Nat.reduceEqDiff, Nat.reduceAdd, Nat.reduceMul, Nat.reduceSub, Nat.reduceLT, Nat.reduceLeDiff, Nat.reducePow, Int.reduceLT, Int.reduceLE, Int.reduceNeg, Int.reduceToNat]
  exact finB rfl
theorem c61 (g : Gr) : Con Try.prog 61 [gv g] 0 (iv (gErr g)) := by
  refine conT (X := [(5, [1], [])]) (rs := [.tmp 2]) Try.func61 (by kernel_rfl) rfl rfl (by kernel_rfl) ?_
  simp (dsimp := false) (maxDischargeDepth := 16) only [go_sem, ↓reduceIte, reduceCtorEq, Nat.reduceEqDiff, Nat.reduceAdd, Nat.reduceMul, Nat.reduceSub, Nat.reduceLT, Nat.reduceLeDiff, Nat.reducePow, Int.reduceLT, Int.reduceLE, Int.reduceNeg, Int.reduceToNat]
  refine condK_dec (fun h1 => ?_) (fun h1 => ?_)
  · simp (dsimp := false) (maxDischargeDepth := 16) only [go_sem, ↓reduceIte, reduceCtorEq, Nat.reduceEqDiff, Nat.reduceAdd, Nat.reduceMul, Nat.reduceSub, Nat.reduceLT, Nat.reduceLeDiff, Nat.reducePow, Int.reduceLT, Int.reduceLE, Int.reduceNeg, Int.reduceToNat, h1]
    exact finI (if_neg (by omega))
  simp (dsimp := false) (maxDischargeDepth := 16) only [go_sem, ↓reduceIte, reduceCtorEq, Nat.reduceEqDiff, Nat.reduceAdd, Nat.reduceMul, Nat.reduceSub, Nat.reduceLT, Nat.reduceLeDiff, Nat.reducePow, Int.reduceLT, Int.reduceLE, Int.reduceNeg, Int.reduceToNat, h1]
  refine condK_dec (fun h2 => ?_) (fun h2 => ?_)
  · simp (dsimp := false) (maxDischargeDepth := 16) only [go_sem, ↓reduceIte, reduceCtorEq, Nat.reduceEqDiff, Nat.reduceAdd, Nat.reduceMul, Nat.reduceSub, Nat.reduceLT, Nat.reduceLeDiff, Nat.reducePow, Int.reduceLT, Int.reduceLE, Int.reduceNeg, Int.reduceToNat, h1, h2]
    exact finI (if_neg (by omega))
  have hs : g.n.length ≤ 40 ∧ g.e.length ≤ 80 := by omega
  simp (dsimp := false) (maxDischargeDepth := 16) only [go_sem, ↓reduceIte, reduceCtorEq, Nat.reduceEqDiff, Nat.reduceAdd, Nat.reduceMul, Nat.reduceSub, Nat.reduceLT, Nat.reduceLeDiff, Nat.reducePow, Int.reduceLT, Int.reduceLE, Int.reduceNeg, Int.reduceToNat, h1, h2]
  refine callK_intro (c112 g.n 113 [] (fun t => !decide (0 ≤ t ∧ t ≤ 99)) (fun t _ => c113 t)) ?_
  simp (dsimp := false) (maxDischargeDepth := 16) only [go_sem, ↓reduceIte, reduceCtorEq, Nat.reduceEqDiff, Nat.reduceAdd, Nat.reduceMul, Nat.reduceSub, Nat.reduceLT, Nat.reduceLeDiff, Nat.reducePow, Int.reduceLT, Int.reduceLE, Int.reduceNeg, Int.reduceToNat, h1, h2]
  refine condK_intro (fun h3 => ?_) (fun h3 => ?_)
  · simp (dsimp := false) (maxDischargeDepth := 16) only [go_sem, ↓reduceIte, reduceCtorEq, Nat.reduceEqDiff, Nat.reduceAdd, Nat.reduceMul, Nat.reduceSub, Nat.reduceLT, Nat.reduceLeDiff, Nat.reducePow, Int.reduceLT, Int.reduceLE, Int.reduceNeg, Int.reduceToNat, h1, h2, h3]
    refine finI ?_
    rw [gErr, if_pos hs, if_neg]
    rintro ⟨h, _⟩
    obtain ⟨t, ht, h4⟩ := List.any_eq_true.1 h3
    exact ndec h4 (h t ht)
  simp (dsimp := false) (maxDischargeDepth := 16) only [go_sem, ↓reduceIte, reduceCtorEq, Nat.reduceEqDiff, Nat.reduceAdd, Nat.reduceMul, Nat.reduceSub, Nat.reduceLT, Nat.reduceLeDiff, Nat.reducePow, Int.reduceLT, Int.reduceLE, Int.reduceNeg, Int.reduceToNat, h1, h2, h3]
  refine callK_intro (c115 g.e 116 [.ptr (gcs g)] (fun x => !decide (edOK g.n.length x)) (fun x _ => c116 x g (by omega))) ?_
  simp (dsimp := false) (maxDischargeDepth := 16) only [go_sem, ↓reduceIte, reduceCtorEq, Nat.reduceEqDiff, Nat.reduceAdd, Nat.reduceMul, Nat.reduceSub, Nat.reduceLT, Nat.reduceLeDiff, Nat.reducePow, Int.reduceLT, Int.reduceLE, Int.reduceNeg, Int.reduceToNat, h1, h2, h3]
  refine condK_intro (fun h4 => ?_) (fun h4 => ?_)
  · simp (dsimp := false) (maxDischargeDepth := 16) only [go_sem, ↓reduceIte, reduceCtorEq, Nat.reduceEqDiff, Nat.reduceAdd, Nat.reduceMul, Nat.reduceSub, Nat.reduceLT, Nat.reduceLeDiff, Nat.reducePow, Int.reduceLT, Int.reduceLE, Int.reduceNeg, Int.reduceToNat, h1, h2, h3, h4]
    refine finI ?_
    rw [gErr, if_pos hs, if_neg]
    rintro ⟨_, h⟩
    obtain ⟨t, ht, h5⟩ := List.any_eq_true.1 h4
    exact ndec h5 (h t ht)
  · simp (dsimp := false) (maxDischargeDepth := 16) only [go_sem, ↓reduceIte, reduceCtorEq, Nat.reduceEqDiff, Nat.reduceAdd, Nat.reduceMul, Nat.reduceSub, Nat.reduceLT, Nat.reduceLeDiff, Nat.reducePow, Int.reduceLT, Int.reduceLE, Int.reduceNeg, Int.reduceToNat, h1, h2, h3, h4]
    refine finI ?_
    rw [gErr, if_pos hs, if_pos]
    refine ⟨fun t ht => ?_, fun x hx => ?_⟩
    · have := List.any_eq_false.1 h3 t ht
      simpa using this
    · have := List.any_eq_false.1 h4 x hx
      exact ydec (by simpa only [Bool.not_eq_true] using this)
theorem idx_sl {P : Program} (t : TypeId) (key : Key) (n sz : Nat) (k : IntKind) (i : Nat) (h : i < n) : idxAV P t (.sl key n sz) (.v (.int k (i : Int))) = if slT P t = true ∧ sz = esz P t then some (.box key (i * esz P t)) else none := by
  simp only [idxAV]
  have h1 : (0 : Int) ≤ (i : Int) := by omega
  have h2 : (i : Int) < n := by omega
  simp [h, h1, h2]
theorem idx_slI {P : Program} (t : TypeId) (key : Key) (n sz : Nat) (k : IntKind) (i : Int) (h0 : 0 ≤ i) (h : i.toNat < n) : idxAV P t (.sl key n sz) (.v (.int k i)) = if slT P t = true ∧ sz = esz P t then some (.box key (i.toNat * esz P t)) else none := by
  simp only [idxAV]
  have h2 : i < n := by omega
  simp [h, h0, h2]
def bi (zs : List Int) : List AV := zs.map fun n => AV.v (.int .i64 n)
theorem bi_set {zs : List Int} {i : Nat} {x : Int} (h : i < zs.length) : (bi zs).take i ++ [AV.v (.int .i64 x)] ++ (bi zs).drop (i + 1) = bi (zs.set i x) := by
  unfold bi
  rw [List.set_eq_take_append_cons_drop, if_pos h]
  simp [List.map_take, List.map_drop]
theorem bi_len (zs : List Int) : (bi zs).length = zs.length := by simp [bi]
theorem bi_zero (n : Nat) : (List.replicate n [AV.v (.int .i64 0)]).flatten = bi (List.replicate n 0) := by
  induction n with
  | zero => rfl
  | succ n ih => simp [List.replicate_succ, ih, bi]
theorem bi_flat (zs : List Int) : bi zs = (zs.map fun n => [AV.v (.int .i64 n)]).flatten := by
  induction zs with
  | nil => rfl
  | cons z zs ih => simp [bi] at ih ⊢; exact ih
theorem finS {s : St} {k : Key} {n : Nat} {zs : List Int} {b : Bool} (hb : s.b k = some ⟨bi zs, b⟩) (hn : zs.length = n) : fin s (.sl k n 1) (lv zs) := by
  refine .one _ _ (.one _ _ (.inr ⟨k, n, 1, zs.map fun n => [iv n], _, rfl, rfl, hb, bi_flat zs, by simpa using hn, ?_, ?_⟩))
  · intro y hy
    obtain ⟨z, _, rfl⟩ := List.mem_map.1 hy
    rfl
  · intro x hx
    obtain ⟨z, _, rfl⟩ := List.mem_map.1 hx
    rfl
theorem c149 (n : Nat) (h : n ≤ 1000000) : Con Try.prog 149 [iv n] 0 (lv (rng n)) := by
  refine conT (X := []) (rs := [.tmp 2]) Try.func149 (by kernel_rfl) rfl rfl (by kernel_rfl) ?_
  simp (dsimp := false) (maxDischargeDepth := 16) only [go_sem, ↓reduceIte, reduceCtorEq, Nat.reduceEqDiff, Nat.reduceAdd, Nat.reduceMul, Nat.reduceSub, Nat.reduceLT, Nat.reduceLeDiff, Nat.reducePow, Int.reduceLT, Int.reduceLE, Int.reduceNeg, Int.reduceToNat, Int.toNat_natCast, bi_zero]
  refine ⟨⟨by omega, by omega, by omega⟩, ?_⟩
  refine loopK_intro (fun (i : Nat) s => i ≤ n ∧ s.t 3 = .sl (6, 0, 0) n 1 ∧ s.t 8 = iv n ∧ s.t 9 = iv i ∧ ∃ zs : List Int, s.b (6, 0, 0) = some ⟨bi zs, false⟩ ∧ zs.length = n ∧ ∀ j, j < i → zs[j]? = some (j : Int)) (fun i => n - i)
    ⟨0, by omega, rfl, rfl, rfl, _, rfl, by simp, fun j hj => by omega⟩ ?_
  rintro i s ⟨hi, t3, t8, t9, zs, b6, hz, hj⟩
  simp (dsimp := false) (maxDischargeDepth := 16) only [go_sem, ↓reduceIte, reduceCtorEq, Nat.reduceEqDiff, Nat.reduceAdd, Nat.reduceMul, Nat.reduceSub, Nat.reduceLT, Nat.reduceLeDiff, Nat.reducePow, Int.reduceLT, Int.reduceLE, Int.reduceNeg, Int.reduceToNat, t3, t8, t9, b6]
  refine condK_dec (fun h6 => ?_) (fun h6 => ?_)
  · simp (dsimp := false) (maxDischargeDepth := 16) only [go_sem, ↓reduceIte, reduceCtorEq, Nat.reduceEqDiff, Nat.reduceAdd, Nat.reduceMul, Nat.reduceSub, Nat.reduceLT, Nat.reduceLeDiff, Nat.reducePow, Int.reduceLT, Int.reduceLE, Int.reduceNeg, Int.reduceToNat, t3, t8, t9, b6, h6, idx_sl]
    refine ⟨by rw [bi_len]; omega, i + 1, by omega, by omega, by rw [wrapN _ (by omega)], zs.set i i, by rw [Nat.mul_one, bi_set (by omega)], by simpa using hz, fun j hji => ?_⟩
    rw [List.getElem?_set]
    split
    · rename_i e; rw [if_pos (by omega), e]
    · exact hj j (by omega)
  · simp (dsimp := false) (maxDischargeDepth := 16) only [go_sem, ↓reduceIte, reduceCtorEq, Nat.reduceEqDiff, Nat.reduceAdd, Nat.reduceMul, Nat.reduceSub, Nat.reduceLT, Nat.reduceLeDiff, Nat.reducePow, Int.reduceLT, Int.reduceLE, Int.reduceNeg, Int.reduceToNat, t3, t8, t9, b6, h6]
    have : zs = rng n := List.ext_getElem? fun j => by
      unfold rng
      by_cases hji : j < n
      · rw [hj j (by omega)]; simp [hji]
      · rw [List.getElem?_eq_none (by omega), List.getElem?_eq_none (by simp; omega)]
    rw [← this]
    exact finS (b := false) (by simp (dsimp := false) (maxDischargeDepth := 16) only [go_sem, ↓reduceIte, reduceCtorEq, Nat.reduceEqDiff, Nat.reduceAdd, Nat.reduceMul, Nat.reduceSub, Nat.reduceLT, Nat.reduceLeDiff, Nat.reducePow, Int.reduceLT, Int.reduceLE, Int.reduceNeg, Int.reduceToNat, b6]) hz
end Go.Sy
