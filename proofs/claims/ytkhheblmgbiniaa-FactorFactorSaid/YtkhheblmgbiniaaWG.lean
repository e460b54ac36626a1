/- Contracts: the program's quotient by partitions. -/
import Derived.Test.YtkhheblmgbiniaaWF
set_option linter.unusedSimpArgs false
namespace Go.Sy
open Go Go.Proofs

theorem getD_app_lt {l : List Int} {x : Int} {j : Nat} (h : j < l.length) : (l ++ [x]).getD j 0 = l.getD j 0 := by
  rw [getD_at (by simp; omega), getD_at h, List.getElem_append_left h]
theorem getD_app_eq {l : List Int} {x : Int} {j : Nat} (h : l.length = j) : (l ++ [x]).getD j 0 = x := by
  subst h
  simp
/-- The number of an element's class is the place of the class's least element. -/
theorem nq_spec {p : List Int} (hp : isP p) : ∀ i, i ≤ p.length → (nq p i).2 = ((rts p i).length : Int) ∧ ∀ j, j < i → 0 ≤ (nq p i).1.getD j 0 ∧ (rts p i)[((nq p i).1.getD j 0).toNat]? = some (p.getD j 0).toNat
  | 0, _ => ⟨rfl, fun j hj => by omega⟩
  | i + 1, hi => by
    obtain ⟨h1, h2⟩ := nq_spec hp i (by omega)
    have hl := nq_len p i
    have h3 := hp i (by omega)
    by_cases h4 : p.getD i 0 = (i : Int)
    · rw [nq, if_pos h4, rts_yes h4]
      refine ⟨by simp [h1], fun j hj => ?_⟩
      by_cases hji : j = i
      · subst hji
        simp only [getD_app_eq hl, h1]
        refine ⟨by omega, ?_⟩
        rw [h4]
        simp
      · have := h2 j (by omega)
        simp only [getD_app_lt (show j < (nq p i).1.length by omega)]
        refine ⟨this.1, ?_⟩
        rw [List.getElem?_append_left (List.getElem?_eq_some_iff.1 this.2).1]
        exact this.2
    · rw [nq, if_neg h4, rts_no h4]
      refine ⟨h1, fun j hj => ?_⟩
      by_cases hji : j = i
      · subst hji
        simp only [getD_app_eq hl]
        have hk : (p.getD j 0).toNat < j := by have := h3.1; have := h3.2.1; omega
        have := h2 _ hk
        rw [h3.2.2] at this
        exact this
      · have := h2 j (by omega)
        simp only [getD_app_lt (show j < (nq p i).1.length by omega)]
        exact this
theorem rts_nodup (p : List Int) (i : Nat) : (rts p i).Nodup := (List.filter_sublist).nodup List.nodup_range
def be (zs : List Ed) : List AV := (zs.map ecs).flatten
theorem be_len (zs : List Ed) : (be zs).length = 3 * zs.length := by
  induction zs with
  | nil => rfl
  | cons z zs ih => simp [be, ecs] at ih ⊢; omega
theorem be_zero (n : Nat) : (List.replicate n [AV.v (.int .i64 0), AV.v (.int .i64 0), AV.v (.int .i64 0)]).flatten = be (List.replicate n (0, 0, 0)) := by
  unfold be
  rw [List.map_replicate]
  rfl
theorem be_app (x y : List Ed) : be (x ++ y) = be x ++ be y := by simp [be]
theorem be_set {zs : List Ed} {i : Nat} {x : Ed} (h : i < zs.length) : (be zs).take (i * 3) ++ [AV.v (.int .i64 x.1), AV.v (.int .i64 x.2.1), AV.v (.int .i64 x.2.2)] ++ (be zs).drop (i * 3 + 3) = be (zs.set i x) := by
  have e : zs = zs.take i ++ [zs[i]] ++ zs.drop (i + 1) := by
    rw [List.append_assoc, List.singleton_append, ← List.drop_eq_getElem_cons h, List.take_append_drop]
  have e1 : (be (zs.take i)).length = i * 3 := by rw [be_len, List.length_take]; omega
  have e2 : (be (zs.take i ++ [zs[i]])).length = i * 3 + 3 := by rw [be_len]; simp; omega
  have t1 : (be zs).take (i * 3) = be (zs.take i) := by
    rw [← e1]
    conv => lhs; rw [show be zs = be (zs.take i) ++ be ([zs[i]] ++ zs.drop (i + 1)) by rw [← be_app, ← List.append_assoc, ← e]]
    rw [List.take_left]
  have t2 : (be zs).drop (i * 3 + 3) = be (zs.drop (i + 1)) := by
    rw [← e2]
    conv => lhs; rw [show be zs = be (zs.take i ++ [zs[i]]) ++ be (zs.drop (i + 1)) by rw [← be_app, ← e]]
    rw [List.drop_left]
  rw [t1, t2, List.set_eq_take_append_cons_drop, if_pos h, be_app, List.append_assoc]
  rfl
theorem fin0S {s : St} {k : Key} {n : Nat} {zs : List Int} {b : Bool} (hb : s.b k = some ⟨bi zs, b⟩) (hn : zs.length = n) : fin0 s (.sl k n 1) (lv zs) := by
  refine .inr ⟨k, n, 1, zs.map fun n => [iv n], _, rfl, rfl, hb, bi_flat zs, by simpa using hn, ?_, ?_⟩
  · intro y hy
    obtain ⟨z, _, rfl⟩ := List.mem_map.1 hy
    rfl
  · intro x hx
    obtain ⟨z, _, rfl⟩ := List.mem_map.1 hx
    rfl
theorem fin0E {s : St} {k : Key} {n : Nat} {zs : List Ed} {b : Bool} (hb : s.b k = some ⟨be zs, b⟩) (hn : zs.length = n) : fin0 s (.sl k n 3) (elv zs) := by
  refine .inr ⟨k, n, 3, zs.map ecs, _, rfl, rfl, hb, rfl, by simpa using hn, ?_, ?_⟩
  · intro y hy
    obtain ⟨z, _, rfl⟩ := List.mem_map.1 hy
    rfl
  · intro x hx
    obtain ⟨y, hy, hx⟩ := List.mem_flatten.1 hx
    obtain ⟨z, _, rfl⟩ := List.mem_map.1 hy
    simp [ecs, iv] at hx
    rcases hx with rfl | rfl | rfl <;> rfl
/-- What is alike: the nodes of one class; the edges of one class. -/
def okP (a : Gr) (p : List Int) : Bool := (List.range p.length).all fun i => a.n.getD i 0 == a.n.getD (p.getD i 0).toNat 0
def okQ (a : Gr) (p q : List Int) : Bool := (List.range q.length).all fun i => sameE p (a.e.getD i (0, 0, 0)) (a.e.getD (q.getD i 0).toNat (0, 0, 0))
/-- A list that holds at the number of each element's class what the element is is the list of the least elements. -/
theorem class_list {α : Type} {p : List Int} (hp : isP p) {f : Nat → α} {zs : List α} (hz : zs.length = (rts p p.length).length) (hall : ∀ j, j < p.length → zs[((nq p p.length).1.getD j 0).toNat]? = some (f j)) : zs = (rts p p.length).map f := by
  refine List.ext_getElem? fun c => ?_
  by_cases hc : c < (rts p p.length).length
  · have hr : (rts p p.length)[c] ∈ rts p p.length := List.getElem_mem hc
    have hr2 := List.mem_filter.1 hr
    have hlt := List.mem_range.1 hr2.1
    have hroot : p.getD (rts p p.length)[c] 0 = ((rts p p.length)[c] : Int) := by simpa using hr2.2
    obtain ⟨_, h2⟩ := nq_spec hp p.length (Nat.le_refl _)
    have h3 := (h2 _ hlt).2
    rw [hroot, Int.toNat_natCast] at h3
    have h4 : ((nq p p.length).1.getD (rts p p.length)[c] 0).toNat = c := by
      have hlt2 := (List.getElem?_eq_some_iff.1 h3).1
      refine (List.getElem?_inj hlt2 (rts_nodup p p.length)).1 ?_
      rw [h3, List.getElem?_eq_getElem hc]
    have h5 := hall _ hlt
    rw [h4] at h5
    rw [h5, List.getElem?_map, List.getElem?_eq_getElem hc]
    rfl
  · rw [List.getElem?_eq_none (by omega), List.getElem?_eq_none (by simp; omega)]
end Go.Sy
