/- Plain law: both ways to list quotients come to the same list. -/
import Derived.Test.YtkhheblmgbiniaaWJ
namespace Go.Sy
open Go Go.Proofs

theorem flat_congr {α β : Type} {f g : α → List β} : ∀ {l : List α}, (∀ x ∈ l, f x = g x) → l.flatMap f = l.flatMap g
  | [], _ => rfl
  | x :: l, h => by rw [List.flatMap_cons, List.flatMap_cons, h x (by simp), flat_congr fun y hy => h y (by simp [hy])]
/-- All lists that go on from one, depth first. -/
def dfs {β : Type} (d : List Int → Nat → Bool) (g : List Int → List β) : Nat → List Int → List β
  | 0, l => g l
  | k + 1, l => (List.range (l.length + 1)).flatMap fun j => if decide (j = l.length) || (decide (l.getD j 0 = (j : Int)) && d l j) then dfs d g k (l ++ [(j : Int)]) else []
def afrom : Nat → List Int → List (List Int)
  | 0, l => [l]
  | k + 1, l => (ext l l.length (l.length + 1)).flatMap (afrom k)
theorem allP_afrom : ∀ (k i : Nat), allP (i + k) = (allP i).flatMap (afrom k)
  | 0, i => by
    have : afrom 0 = fun l => [l] := by funext l; rfl
    rw [this, Nat.add_zero]
    simp
  | k + 1, i => by
    have h := allP_afrom k (i + 1)
    rw [show i + (k + 1) = i + 1 + k by omega, h, allP, List.flatMap_assoc]
    refine flat_congr fun p hp => ?_
    rw [afrom, allP_mem i p hp]
theorem allP_all (n : Nat) : allP n = afrom n [] := by
  have := allP_afrom n 0
  rw [Nat.zero_add] at this
  rw [this]
  simp [allP]
theorem afrom_pre : ∀ (k : Nat) (l q : List Int), q ∈ afrom k l → ∃ t, q = l ++ t
  | 0, l, q, h => by
    simp [afrom] at h
    exact ⟨[], by simp [h]⟩
  | k + 1, l, q, h => by
    unfold afrom at h
    obtain ⟨r, hr, h⟩ := List.mem_flatMap.1 h
    obtain ⟨x, _, _, rfl⟩ := ext_mem2 hr
    obtain ⟨t, rfl⟩ := afrom_pre k _ q h
    exact ⟨_, List.append_assoc ..⟩
theorem ext_flat {β : Type} (l : List Int) (n m : Nat) (f : List Int → List β) : (ext l n m).flatMap f = (List.range m).flatMap fun (j : Nat) => if decide (j = n) || decide (l.getD j 0 = (j : Int)) then f (l ++ [(j : Int)]) else [] := by
  unfold ext
  generalize List.range m = R
  induction R with
  | nil => rfl
  | cons x R ih =>
    rw [List.flatMap_cons, ← ih, List.filter_cons]
    split
    · rfl
    · rfl
theorem dfs_all {β : Type} {d : List Int → Nat → Bool} {g : List Int → List β} {ok : List Int → Bool} (h1 : ∀ l (j : Nat), j ≤ l.length → ok (l ++ [(j : Int)]) = (ok l && d l j)) (h2 : ∀ l, d l l.length = true) (h3 : ∀ l t, ok (l ++ t) = true → ok l = true) :
    ∀ (k : Nat) (l : List Int), ok l = true → dfs d g k l = (afrom k l).flatMap fun p => if ok p = true then g p else []
  | 0, l, h => by
    simp [dfs, afrom, h]
  | k + 1, l, h => by
    rw [dfs, afrom, ext_flat, List.flatMap_assoc]
    refine flat_congr fun j hj => ?_
    have hj := List.mem_range.1 hj
    by_cases c : (decide (j = l.length) || decide (l.getD j 0 = (j : Int))) = true
    · rw [if_pos c]
      by_cases hd : d l j = true
      · have e : (decide (j = l.length) || (decide (l.getD j 0 = (j : Int)) && d l j)) = true := by rw [hd, Bool.and_true]; exact c
        rw [if_pos e]
        exact dfs_all h1 h2 h3 k _ (by rw [h1 l j (by omega), h, hd]; rfl)
      · have hne : j ≠ l.length := fun e => hd (e ▸ h2 l)
        have e : ¬ (decide (j = l.length) || (decide (l.getD j 0 = (j : Int)) && d l j)) = true := by simp [hne, hd]
        rw [if_neg e]
        symm
        rw [List.flatMap_eq_nil_iff]
        intro p hp
        obtain ⟨t, rfl⟩ := afrom_pre k _ p hp
        rw [if_neg]
        intro hh
        have := h3 _ _ hh
        rw [h1 l j (by omega)] at this
        simp [hd] at this
    · have e : ¬ (decide (j = l.length) || (decide (l.getD j 0 = (j : Int)) && d l j)) = true := by
        intro e
        apply c
        simp only [Bool.or_eq_true, Bool.and_eq_true] at e ⊢
        exact e.imp id And.left
      rw [if_neg c, if_neg e]
      rfl
theorem take_cap {α : Type} (a b : List α) (n : Nat) : (a.take n ++ b).take n = (a ++ b).take n := by
  rw [List.take_append, List.take_append, List.take_take, Nat.min_self, List.length_take]
  congr 2
  omega
theorem fold_cap {α β : Type} {f : List α → β → List α} {g : β → List α} {n : Nat} (h : ∀ j o, o.length ≤ n → f o j = (o ++ g j).take n) : ∀ (l : List β) (o : List α), o.length ≤ n → l.foldl f o = (o ++ l.flatMap g).take n
  | [], o, ho => by simp [List.take_of_length_le ho]
  | x :: l, o, ho => by
    rw [List.foldl_cons, h x o ho, fold_cap h l _ (by simp; omega), List.flatMap_cons, take_cap, List.append_assoc]
theorem take_full' {α : Type} {o : List α} {n : Nat} (h : n ≤ o.length) (ho : o.length ≤ n) (r : List α) : o = (o ++ r).take n := by
  rw [List.take_append_of_le_length h, List.take_of_length_le ho]
theorem quE_cap (a : Gr) (nodes : List Int) : ∀ (k : Nat) (l : List Int) (out : List Qu), out.length ≤ 2001 →
    quE a nodes k l out = (out ++ dfs (fun l j => sameE nodes (a.e.getD l.length (0, 0, 0)) (a.e.getD j (0, 0, 0))) (fun l => [quo a nodes l]) k l).take 2001
  | 0, l, out, h => by
    rw [quE, dfs]
    split
    · exact take_full' (by omega) h _
    · rw [List.take_of_length_le (by simp; omega)]
  | k + 1, l, out, h => by
    rw [quE, dfs]
    split
    · exact take_full' (by omega) h _
    · refine fold_cap (fun j o ho => ?_) _ _ h
      show (if okq a nodes l j = true then _ else _) = _
      by_cases c : okq a nodes l j = true
      · have c' : (decide (j = l.length) || (decide (l.getD j 0 = (j : Int)) && sameE nodes (a.e.getD l.length (0, 0, 0)) (a.e.getD j (0, 0, 0)))) = true := c
        rw [if_pos c, if_pos c']
        exact quE_cap a nodes k _ _ ho
      · have c' : ¬ (decide (j = l.length) || (decide (l.getD j 0 = (j : Int)) && sameE nodes (a.e.getD l.length (0, 0, 0)) (a.e.getD j (0, 0, 0)))) = true := c
        rw [if_neg c, if_neg c', List.append_nil, List.take_of_length_le ho]
theorem quN_cap (a : Gr) : ∀ (k : Nat) (l : List Int) (out : List Qu), out.length ≤ 2001 →
    quN a k l out = (out ++ dfs (fun l j => decide (a.n.getD j 0 = a.n.getD l.length 0)) (fun p => dfs (fun l j => sameE p (a.e.getD l.length (0, 0, 0)) (a.e.getD j (0, 0, 0))) (fun l => [quo a p l]) a.e.length []) k l).take 2001
  | 0, l, out, h => by
    rw [quN, dfs]
    split
    · exact take_full' (by omega) h _
    · exact quE_cap a l _ _ _ h
  | k + 1, l, out, h => by
    rw [quN, dfs]
    split
    · exact take_full' (by omega) h _
    · refine fold_cap (fun j o ho => ?_) _ _ h
      show (if okn a l j = true then _ else _) = _
      by_cases c : okn a l j = true
      · have c' : (decide (j = l.length) || (decide (l.getD j 0 = (j : Int)) && decide (a.n.getD j 0 = a.n.getD l.length 0))) = true := c
        rw [if_pos c, if_pos c']
        exact quN_cap a k _ _ ho
      · have c' : ¬ (decide (j = l.length) || (decide (l.getD j 0 = (j : Int)) && decide (a.n.getD j 0 = a.n.getD l.length 0))) = true := c
        rw [if_neg c, if_neg c', List.append_nil, List.take_of_length_le ho]
theorem all_range_congr {n : Nat} {f g : Nat → Bool} (h : ∀ i, i < n → f i = g i) : (List.range n).all f = (List.range n).all g := by
  rw [Bool.eq_iff_iff, List.all_eq_true, List.all_eq_true]
  exact ⟨fun hh i hi => by rw [← h i (List.mem_range.1 hi)]; exact hh i hi, fun hh i hi => by rw [h i (List.mem_range.1 hi)]; exact hh i hi⟩
theorem getD_pre {l t : List Int} {i : Nat} (h : i < l.length) : (l ++ t).getD i 0 = l.getD i 0 := by
  rw [getD_at (by simp; omega), getD_at h, List.getElem_append_left h]
theorem all_ext (c : Nat → Int → Bool) (l : List Int) (j : Int) : ((List.range (l ++ [j]).length).all fun i => c i ((l ++ [j]).getD i 0)) = (((List.range l.length).all fun i => c i (l.getD i 0)) && c l.length j) := by
  rw [List.length_append, List.length_cons, List.length_nil, Nat.zero_add, List.range_succ, List.all_append]
  congr 1
  · exact all_range_congr fun i hi => by rw [getD_pre hi]
  · simp
theorem all_pre (c : Nat → Int → Bool) (l t : List Int) (h : ((List.range (l ++ t).length).all fun i => c i ((l ++ t).getD i 0)) = true) : ((List.range l.length).all fun i => c i (l.getD i 0)) = true := by
  rw [List.all_eq_true] at h ⊢
  intro i hi
  have hi' := List.mem_range.1 hi
  have := h i (List.mem_range.2 (by simp; omega))
  rwa [getD_pre hi'] at this
theorem sameE_refl (p : List Int) (x : Ed) : sameE p x x = true := by simp [sameE]
theorem flat_filter {α β : Type} (f : α → Bool) (g : α → β) (l : List α) : (l.flatMap fun p => if f p = true then [g p] else []) = (l.filter f).map g := by
  induction l with
  | nil => rfl
  | cons x l ih =>
    rw [List.flatMap_cons, ih, List.filter_cons]
    split
    · rfl
    · rfl
theorem genE_eq (a : Gr) (p : List Int) : dfs (fun l j => sameE p (a.e.getD l.length (0, 0, 0)) (a.e.getD j (0, 0, 0))) (fun l => [quo a p l]) a.e.length [] = ((allP a.e.length).filter (okQ a p)).map (quo a p) := by
  rw [dfs_all (ok := okQ a p) (fun l j hj => ?_) (fun l => sameE_refl _ _) (fun l t h => ?_) a.e.length [] rfl, ← allP_all, flat_filter]
  · exact all_ext (fun i k => sameE p (a.e.getD i (0, 0, 0)) (a.e.getD k.toNat (0, 0, 0))) l j
  · exact all_pre (fun i k => sameE p (a.e.getD i (0, 0, 0)) (a.e.getD k.toNat (0, 0, 0))) l t h
theorem genN_eq (a : Gr) : dfs (fun l j => decide (a.n.getD j 0 = a.n.getD l.length 0)) (fun p => dfs (fun l j => sameE p (a.e.getD l.length (0, 0, 0)) (a.e.getD j (0, 0, 0))) (fun l => [quo a p l]) a.e.length []) a.n.length [] = quL a := by
  rw [dfs_all (ok := okP a) (fun l j hj => ?_) (fun l => by simp) (fun l t h => ?_) a.n.length [] rfl, ← allP_all]
  · unfold quL quF
    refine flat_congr fun p hp => ?_
    rw [genE_eq]
  · have := all_ext (fun i k => a.n.getD i 0 == a.n.getD k.toNat 0) l j
    rw [okP, this]
    congr 1
    rw [Int.toNat_natCast, Bool.eq_iff_iff]
    simp only [beq_iff_eq, decide_eq_true_eq]
    exact eq_comm
  · exact all_pre (fun i k => a.n.getD i 0 == a.n.getD k.toNat 0) l t h
theorem quP_quS (a : Gr) : quP a = quS a := by
  unfold quP quS
  split
  · rfl
  split
  · rfl
  rw [quN_cap a _ _ _ (by simp), genN_eq, List.nil_append]
  by_cases h : 2000 < (quL a).length
  · rw [if_pos h, if_pos (by rw [List.length_take]; omega)]
  · rw [if_neg h, if_neg (by rw [List.length_take]; omega), List.take_of_length_le (by omega)]
end Go.Sy
