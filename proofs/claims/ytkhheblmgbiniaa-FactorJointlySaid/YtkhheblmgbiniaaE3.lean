/- A region that draws its order: each step of any order is the text's. -/
import Derived.Test.YtkhheblmgbiniaaE2
import Derived.Orders
set_option linter.unusedVariables false
set_option linter.unusedSectionVars false
namespace Go.Sy
open Go Go.RowKit

variable {N : Nat} {w0 : World} {C0 : CMap} {E : EX} {s s' : St} {a : Act} {w : World} {P : Program} {o o' : Oper} {e : Eff} {ops : Array Oper} {l : List Ap} {T : Nat → Option Stp} {S : Nat → St}

namespace Txt
variable (H : Txt P N w0 C0 E ops l T S) {X : Nat → Prop} {i : Nat}
include H

theorem stb {j : Nat} {k : Key} (hj : ops[j]? = some o) (h : StB (T j) k) : isSt o = true ∧ accB o = true ∧ ∃ y ∈ addrs o, y ∈ Oper.looksAt ops o ∧ ∃ off, (S j).t y = .box k off := by
  obtain ⟨e, hT, hk⟩ := h
  obtain ⟨h1, y, hy, off, hb⟩ := ev_st ((H.tr j o hj).1.e _ hT) hk
  have hl : y ∈ Oper.looksAt ops o ∧ accB o = true := by
    have key : ∀ {x : Operand}, x ∈ o.op.operands → tmpOf x = some y → y ∈ Oper.looksAt ops o := by
      intro x hx hxy
      simp only [Oper.looksAt, List.mem_append, List.mem_filterMap]
      refine .inl ⟨x, by simpa using hx, ?_⟩
      cases x <;> simp [tmpOf] at hxy ⊢
      exact hxy
    unfold addrs at hy
    split at hy
    · rename_i t x ho
      exact ⟨key (x := x) (by simp [ho, Op.operands]) (by simpa using hy), by simp [accB, ho]⟩
    · rename_i t x v ho
      exact ⟨key (x := x) (by simp [ho, Op.operands]) (by simpa using hy), by simp [accB, ho]⟩
    · rename_i f xs cs ho
      simp [isSt, ho] at h1
    · cases hy
  exact ⟨h1, hl.2, y, hy, hl.1, off, hb⟩

theorem klb {j : Nat} {k : Key} (hj : ops[j]? = some o) (h : KlB (T j) k) : isApp o = true ∧ ∃ y, y ∈ Oper.looksAt ops o ∧ ∃ sz xs, (S j).t y = .list sz xs (.own k) := by
  obtain ⟨e, hT, hk⟩ := h
  obtain ⟨h1, _, y, hy, sz, xs, hb, _⟩ := ev_kl ((H.tr j o hj).1.e _ hT) hk
  refine ⟨h1, y, ?_, sz, xs, hb⟩
  simp only [Oper.looksAt, List.mem_append, List.mem_filterMap]
  refine .inl ⟨.tmp y, ?_, rfl⟩
  unfold isApp at h1
  split at h1
  · rename_i args ts ho
    simp only [recv, ho] at hy
    rw [ho]
    simp [Op.operands, Call.operands]
    have := List.mem_of_mem_head? (a := Operand.tmp y) (l := args.toList) (by simp [hy])
    simpa using this
  · cases h1

/-- Two operations at one box, one of which writes: one comes before the other. -/
theorem st_ord {i j : Nat} {k : Key} (hi : ops[i]? = some o) (hj : ops[j]? = some o') (hij : i ≠ j) (hs : StB (T j) k) {y : Nat} (hy : y ∈ addrs o) (hyl : y ∈ Oper.looksAt ops o) (ha : accB o = true) {off : Nat} (hk : (S i).t y = .box k off) : OrdR ops i j := by
  obtain ⟨h1, _, z, hz, hzl, off', hzb⟩ := H.stb hj hs
  rcases H.ok.st i j o o' hi hj hij h1 ha with h | h
  · exact h
  · exfalso
    obtain ⟨ys, ds, hq, hys⟩ := h z hz
    have hne := List.ne_nil_of_mem hq
    have hap := List.all_eq_true.1 H.fin _ hq
    have hze : (S ops.size).t z = .box k off' := by rw [← H.t_end hne hj hzl]; exact hzb
    have hye : (S ops.size).t y = .box k off := by rw [← H.t_end hne hi hyl]; exact hk
    simp only [ap1, hze, ap2, Bool.and_eq_true, List.all_eq_true] at hap
    have := hap.1 y (hys y hy)
    simp [ap0, hye] at this

variable (R : Rdy ops X i o)
include R

section
variable (hrep : Rep N w0 C0 E (sx ops T S X) a w)
include hrep

/-- Both states know the key: who made it is in the set, and before. -/
theorem mk_both {j : Nat} {k : Key} (hj : ops[j]? = some o') (hm : Mk (S 0).g o' (T j) k) (h1 : k.2.1 < (S i).g k.1) (h2 : k.2.1 < (sx ops T S X).g k.1) : X j ∧ j < i :=
  ⟨H.madeX hj hm h2, H.made hj hm (Nat.le_of_lt (H.lt_ R.at_)) h1⟩

theorem rep_i : ∃ a w, Rep N w0 C0 E (S i) a w := H.rep i (Nat.le_of_lt (H.lt_ R.at_))

/-- The box behind an address slot. -/
theorem bx {y : Nat} (hy : y ∈ addrs o) {k : Key} {off : Nat} (hk : (S i).t y = .box k off) : (S i).b k = (sx ops T S X).b k := by
  have hin := H.lt_ R.at_
  obtain ⟨hyl, hacc⟩ := H.look_addr R hy
  obtain ⟨a', w', hri⟩ := H.rep_i R hrep
  have h1 := rep_box hri hk
  have h2 := rep_box hrep (by rw [← H.tx R hyl]; exact hk)
  rw [H.fold (Nat.le_of_lt hin)]
  refine (SX_prefix (d_b k).1 (Nat.le_of_lt hin) ?_).symm
  intro j _ ht
  obtain ⟨q, hq, h⟩ := (d_b k).2 j ht
  by_cases hij : i = j
  · subst hij; exact R.me
  rcases h with h | h | ⟨kl, g, h⟩
  · exact R.ord H.ok (H.st_ord R.at_ hq hij h hy hyl hacc hk)
  · have := H.mk_both R hrep hq h h1 h2
    exact ⟨fun _ => this.2, fun _ => this.1⟩
  · rcases (H.ec hq h).2.2.1 i o R.at_ hacc hij with hh | hh
    · exact R.ord H.ok (hh.symm)
    · exact absurd rfl (hh y hy k off (by rw [← H.t_end (H.ec hq h).2.2.2.2.2.2 R.at_ hyl]; exact hk))

theorem dx {y : Nat} (hy : recv o = some (.tmp y)) (ha : isApp o = true) {e : Eff} (hT : T i = some (.ef e)) {sz : Nat} {xs : List (List AV)} {k : Key} (hk : (S i).t y = .list sz xs (.own k)) : (S i).d k = (sx ops T S X).d k := by
  have hin := H.lt_ R.at_
  have hkl := ev_app ((H.tr i o R.at_).1.e _ hT) ha hy hk
  have hKl : KlB (T i) k := ⟨e, hT, hkl⟩
  obtain ⟨_, y2, hyl, sz2, xs2, hk2⟩ := H.klb R.at_ hKl
  obtain ⟨a', w', hri⟩ := H.rep_i R hrep
  have h1 := rep_tok hri hk2
  have h2 := rep_tok hrep (y := y2) (sz := sz2) (xs := xs2) (by rw [← H.tx R hyl]; exact hk2)
  rw [H.fold (Nat.le_of_lt hin)]
  refine (SX_prefix (d_d k).1 (Nat.le_of_lt hin) ?_).symm
  intro j _ ht
  obtain ⟨q, hq, h⟩ := (d_d k).2 j ht
  by_cases hij : i = j
  · subst hij; exact R.me
  rcases h with h | h | ⟨k0, kl, g, h, _⟩
  · have := H.mk_both R hrep hq h h1 h2
    exact ⟨fun _ => this.2, fun _ => this.1⟩
  · exact absurd (H.kill_one R.at_ hq hKl h) hij
  · exact R.ord H.ok ((H.ok.pp j i q o hq R.at_ (Ne.symm hij) (H.ec hq h).1 (.inr ha)).symm)

theorem alike {e : Eff} (hT : T i = some (.ef e)) : Alike P o (S i) (sx ops T S X) := by
  refine ⟨fun x hx t => H.ox R hx t, ?_, fun y hy k off hk => H.bx R hrep hy hk, fun ha y hy sz xs k hk => H.dx R hrep hy ha hT hk⟩
  intro hst
  cases hd : o.dst with
  | some d => exact H.gx R hd
  | none =>
    exfalso
    rcases H.ok.dst1 i o R.at_ with h | h | h
    · rw [hd] at h; cases h
    · rw [hst] at h; cases h
    · obtain ⟨x, ys, ds, hq, hrx, hds, _⟩ := H.ok.cov i o R.at_ h
      have hap := List.all_eq_true.1 H.fin _ hq
      have hlook : x ∈ Oper.looksAt ops o := by
        simp only [Oper.looksAt, List.mem_append, List.mem_filterMap]
        refine .inl ⟨.tmp x, ?_, rfl⟩
        unfold pcall at h
        split at h
        · rename_i g args ts ho
          simp only [recv, ho] at hrx
          rw [ho]
          simp [Op.operands, Call.operands]
          have := List.mem_of_mem_head? (a := Operand.tmp x) (l := args.toList) (by simp [hrx])
          exact .inr (by simpa using this)
        · cases h
      have he := (H.tr i o R.at_).1.e _ hT
      simp only [ap1] at hap
      rw [← H.t_end (List.ne_nil_of_mem hq) R.at_ hlook] at hap
      unfold ap2 at hap
      split at hap
      · rename_i k off hb
        exact Ev_recv he h hrx (fun t => hb)
      · cases hap

theorem ecx {k : Key} {v : AV} {c : List AV} {kl : Option Key} {g : Nat} (hT : T i = some (.ec k v c kl g)) :
    EEvK P (sx ops T S X) o k v c kl ∧ g = (sx ops T S X).g k.1 ∧ k.2.1 < (sx ops T S X).g k.1 ∧ (∀ k', kl = some k' → k'.2.1 < (sx ops T S X).g k'.1 ∧ k'.2.1 < (S i).g k'.1) := by
  have hin := H.lt_ R.at_
  have hec : isEc (T i) k kl g := ⟨v, c, hT⟩
  obtain ⟨hp, hds, hacc, hg, ⟨y, hy, hyl⟩, _, hlne⟩ := H.ec R.at_ hec
  have he : EEvK P (S i) o k v c kl := ((H.tr i o R.at_).1.e _ hT).1
  obtain ⟨a', w', hri⟩ := H.rep_i R hrep
  have hb : (S i).b k = (sx ops T S X).b k := by
    rw [H.fold (Nat.le_of_lt hin)]
    refine (SX_prefix (d_b k).1 (Nat.le_of_lt hin) ?_).symm
    intro j _ ht
    obtain ⟨q, hq, h⟩ := (d_b k).2 j ht
    by_cases hij : i = j
    · subst hij; exact R.me
    rcases h with h | h | ⟨kl', g', h⟩
    · obtain ⟨_, ha, z, hz, hzl, off, hzb⟩ := H.stb hq h
      rcases hacc j q hq ha (Ne.symm hij) with hh | hh
      · exact R.ord H.ok hh
      · exact absurd rfl (hh z hz k off (by rw [← H.t_end hlne hq hzl]; exact hzb))
    · exact absurd rfl (hds j q _ hq h.1)
    · exact R.ord H.ok (H.ok.pp i j o q R.at_ hq hij hp (.inl (H.ec hq h).1))
  have hgx : (S i).g k.1 = (sx ops T S X).g k.1 := by
    rw [H.fold (Nat.le_of_lt hin)]
    refine (SX_prefix (d_g k.1).1 (Nat.le_of_lt hin) ?_).symm
    intro j _ ht
    obtain ⟨q, hq, h⟩ := (d_g k.1).2 j ht
    by_cases hij : i = j
    · subst hij; exact R.me
    rcases h with h | ⟨k', kl', g', h, _⟩
    · exact absurd rfl (hds j q _ hq h)
    · exact R.ord H.ok (H.ok.pp i j o q R.at_ hq hij hp (.inl (H.ec hq h).1))
  have hkl : ∀ k', kl = some k' → k'.2.1 < (sx ops T S X).g k'.1 ∧ k'.2.1 < (S i).g k'.1 := by
    intro k' hk'
    obtain ⟨_, pre, sz, xs, hbb⟩ := (EEvK_facts he).2.2 k' hk'
    exact ⟨rep_btok hrep (by rw [← hb]; exact hbb), rep_btok hri hbb⟩
  refine ⟨EEvK_congr (fun x hx t => H.ox R hx t) hb hgx ?_ he, hg.trans hgx, rep_box hrep (y := y) (off := 0) (by rw [← H.tx R hyl]; exact hy), hkl⟩
  intro k' hk'
  obtain ⟨h2, h1⟩ := hkl k' hk'
  rw [H.fold (Nat.le_of_lt hin)]
  refine (SX_prefix (d_d k').1 (Nat.le_of_lt hin) ?_).symm
  intro j _ ht
  obtain ⟨q, hq, h⟩ := (d_d k').2 j ht
  by_cases hij : i = j
  · subst hij; exact R.me
  rcases h with h | h | ⟨k0, kl', g', h, _⟩
  · have := H.mk_both R hrep hq h h1 h2
    exact ⟨fun _ => this.2, fun _ => this.1⟩
  · exact R.ord H.ok (H.ok.pp i j o q R.at_ hq hij hp (.inr (H.klb hq h).1))
  · exact R.ord H.ok (H.ok.pp i j o q R.at_ hq hij hp (.inl (H.ec hq h).1))

theorem trx : TR P ops (sx ops T S X) o (T i) := by
  obtain ⟨hw, he⟩ := (H.tr i o R.at_).1
  refine ⟨by rw [← H.wx R]; exact hw, fun p hp => ?_⟩
  cases p with
  | ef e => exact Ev_congr (H.alike R hrep hp) (he _ hp)
  | ec k v c kl g =>
    have := H.ecx R hrep hp
    exact ⟨this.1, this.2.1⟩

/-- The keys of the step are known in the set's state and in the text's. -/
theorem keys {k : Key} (hk : Keys (T i) k) : k.2.1 < (sx ops T S X).g k.1 ∧ k.2.1 < (S i).g k.1 := by
  obtain ⟨a', w', hri⟩ := H.rep_i R hrep
  rcases hk with h | h | ⟨kl, g, k0, h, hk⟩
  · obtain ⟨_, _, y, _, hyl, off, hb⟩ := H.stb R.at_ h
    exact ⟨rep_box hrep (y := y) (off := off) (by rw [← H.tx R hyl]; exact hb), rep_box hri hb⟩
  · obtain ⟨_, y, hyl, sz, xs, hb⟩ := H.klb R.at_ h
    exact ⟨rep_tok hrep (y := y) (sz := sz) (xs := xs) (by rw [← H.tx R hyl]; exact hb), rep_tok hri hb⟩
  · obtain ⟨v, c, hT⟩ := h
    have := H.ecx R hrep hT
    rcases hk with rfl | hk
    · obtain ⟨_, _, _, _, ⟨y, hy, hyl⟩, _⟩ := H.ec R.at_ ⟨v, c, hT⟩
      exact ⟨this.2.2.1, rep_box hri hy⟩
    · exact this.2.2.2 k hk

theorem insert (hinv : InvX T X (sx ops T S X)) : sx ops T S (fun j => X j ∨ j = i) = stF ops (S 0).g T i (sx ops T S X) := by
  have hin := H.lt_ R.at_
  have ob : ∀ {j : Nat}, X j → OrdR ops i j → j < i := fun hj h => (R.ord H.ok h).1 hj
  have ne : ∀ {j : Nat}, X j → i ≠ j := fun hj hh => R.no (hh ▸ hj)
  have et : ∀ u, (sx ops T S (fun j => X j ∨ j = i)).t u = (stF ops (S 0).g T i (sx ops T S X)).t u := by
    intro u
    refine SX_insert (π := fun s => s.t u) (d_t u).1 hin R.no fun hti j _ hj htj => ?_
    obtain ⟨q, hq, hd⟩ := (d_t u).2 i hti
    obtain ⟨q', hq', hd'⟩ := (d_t u).2 j htj
    exact absurd (H.ok.dist i j q q' u hq hq' hd hd') (ne hj)
  have eg : ∀ u, (sx ops T S (fun j => X j ∨ j = i)).g u = (stF ops (S 0).g T i (sx ops T S X)).g u := by
    intro u
    refine SX_insert (π := fun s => s.g u) (d_g u).1 hin R.no fun hti j _ hj htj => ?_
    obtain ⟨q, hq, h⟩ := (d_g u).2 i hti
    obtain ⟨q', hq', h'⟩ := (d_g u).2 j htj
    rcases h with h | ⟨k, kl, g, h, hk⟩
    · rcases h' with h' | ⟨k', kl', g', h', hk'⟩
      · exact absurd (H.ok.dist i j q q' u hq hq' h h') (ne hj)
      · exact absurd hk' (H.notec hq h hq' h')
    · rcases h' with h' | ⟨k', kl', g', h', hk'⟩
      · exact absurd hk (H.notec hq' h' hq h)
      · exact ob hj (H.ok.pp i j q q' hq hq' (ne hj) (H.ec hq h).1 (.inl (H.ec hq' h').1))
  have eb : ∀ k, (sx ops T S (fun j => X j ∨ j = i)).b k = (stF ops (S 0).g T i (sx ops T S X)).b k := by
    intro k
    refine SX_insert (π := fun s => s.b k) (d_b k).1 hin R.no fun hti j _ hj htj => ?_
    obtain ⟨q, hq, h⟩ := (d_b k).2 i hti
    obtain ⟨q', hq', h'⟩ := (d_b k).2 j htj
    rcases h with h | h | ⟨kl, g, h⟩
    · rcases h' with h' | h' | ⟨kl', g', h'⟩
      · obtain ⟨_, ha, y, hy, hyl, off, hb⟩ := H.stb hq h
        exact ob hj (H.st_ord hq hq' (ne hj) h' hy hyl ha hb)
      · exact H.made hq' h' (Nat.le_of_lt hin) (H.keys R hrep (.inl h)).2
      · obtain ⟨_, ha, y, hy, hyl, off, hb⟩ := H.stb hq h
        rcases (H.ec hq' h').2.2.1 i q hq ha (ne hj) with hh | hh
        · exact ob hj hh.symm
        · exact absurd rfl (hh y hy k off (by rw [← H.t_end (H.ec hq' h').2.2.2.2.2.2 hq hyl]; exact hb))
    · rcases h' with h' | h' | ⟨kl', g', h'⟩
      · exact absurd (H.madeX hq h (hinv j hj k (.inl h'))) R.no
      · exact absurd (H.ok.dist i j q q' _ hq hq' h.1 h'.1) (ne hj)
      · exact absurd rfl (H.notec hq h.1 hq' h')
    · rcases h' with h' | h' | ⟨kl', g', h'⟩
      · obtain ⟨_, ha, y, hy, hyl, off, hb⟩ := H.stb hq' h'
        rcases (H.ec hq h).2.2.1 j q' hq' ha (Ne.symm (ne hj)) with hh | hh
        · exact ob hj hh
        · exact absurd rfl (hh y hy k off (by rw [← H.t_end (H.ec hq h).2.2.2.2.2.2 hq' hyl]; exact hb))
      · exact absurd rfl (H.notec hq' h'.1 hq h)
      · exact ob hj (H.ok.pp i j q q' hq hq' (ne hj) (H.ec hq h).1 (.inl (H.ec hq' h').1))
  have ed : ∀ k, (sx ops T S (fun j => X j ∨ j = i)).d k = (stF ops (S 0).g T i (sx ops T S X)).d k := by
    intro k
    refine SX_insert (π := fun s => s.d k) (d_d k).1 hin R.no fun hti j _ hj htj => ?_
    obtain ⟨q, hq, h⟩ := (d_d k).2 i hti
    obtain ⟨q', hq', h'⟩ := (d_d k).2 j htj
    rcases h with h | h | ⟨k0, kl, g, h, hk⟩
    · rcases h' with h' | h' | ⟨k0', kl', g', h', hk'⟩
      · exact absurd (H.ok.dist i j q q' _ hq hq' h.1 h'.1) (ne hj)
      · exact absurd (H.madeX hq h (hinv j hj k (.inr (.inl h')))) R.no
      · rcases hk' with hk' | hk'
        · exact absurd (H.madeX hq h (hinv j hj k (.inr (.inr ⟨kl', g', k0', h', .inr hk'⟩)))) R.no
        · exact absurd (by rw [hk']) (H.notec hq h.1 hq' h')
    · rcases h' with h' | h' | ⟨k0', kl', g', h', hk'⟩
      · exact H.made hq' h' (Nat.le_of_lt hin) (H.keys R hrep (.inr (.inl h))).2
      · exact absurd (H.kill_one hq hq' h h') (ne hj)
      · exact ob hj (H.ok.pp j i q' q hq' hq (Ne.symm (ne hj)) (H.ec hq' h').1 (.inr (H.klb hq h).1)).symm
    · rcases h' with h' | h' | ⟨k0', kl', g', h', hk'⟩
      · rcases hk with hk | hk
        · exact H.made hq' h' (Nat.le_of_lt hin) (H.keys R hrep (.inr (.inr ⟨kl, g, k0, h, .inr hk⟩))).2
        · exact absurd (by rw [hk]) (H.notec hq' h'.1 hq h)
      · exact ob hj (H.ok.pp i j q q' hq hq' (ne hj) (H.ec hq h).1 (.inr (H.klb hq' h').1))
      · exact ob hj (H.ok.pp i j q q' hq hq' (ne hj) (H.ec hq h).1 (.inl (H.ec hq' h').1))
  generalize sx ops T S (fun j => X j ∨ j = i) = A at et eg eb ed
  generalize stF ops (S 0).g T i (sx ops T S X) = B at et eg eb ed
  cases A; cases B
  simp only at et eg eb ed
  congr 1 <;> funext u
  · exact et u
  · exact eb u
  · exact ed u
  · exact eg u

theorem stF_nx : stF ops (S 0).g T i (sx ops T S X) = nx (sx ops T S X) o.dst (T i) := by
  rw [stF, R.at_]
  refine actS_nx ?_ ?_
  · intro d hd
    rw [← H.gx R hd, H.g_text R.at_ hd (Nat.le_refl _)]
  · intro k v c kl g hT
    exact (H.ecx R hrep hT).2.1

theorem inv (hinv : InvX T X (sx ops T S X)) : InvX T (fun j => X j ∨ j = i) (sx ops T S (fun j => X j ∨ j = i)) := by
  rw [H.insert R hrep hinv, H.stF_nx R hrep]
  intro j hj k hk
  refine Nat.lt_of_lt_of_le ?_ (nx_mono k.1)
  rcases hj with hj | rfl
  · exact hinv j hj k hk
  · exact (H.keys R hrep hk).1
end
end Txt

theorem Rep.drawn {n : Nat} (h : Rep N w0 C0 E s a w) : Rep N w0 C0 E s a { w with drawn := n } := by
  obtain ⟨C, ρ, τ, h⟩ := h
  have hbx : ∀ k B, s.b k = some B → ∃ b, ρ k = some b ∧ BoxW C ρ τ { w with drawn := n } b B ∧ (w0.heap.size ≤ b ∨ E b) := by
    intro k B hB
    obtain ⟨b, h1, ⟨h2, h3⟩, h4⟩ := h.bx k B hB
    exact ⟨b, h1, ⟨h2, h3⟩, h4⟩
  exact ⟨C, ρ, τ, { df := h.df, sz := h.sz, tm := h.tm, cw := h.cw, c0 := h.c0, c1 := h.c1, bx := hbx, bj := h.bj, tk := h.tk, tj := h.tj, fρ := h.fρ, fτ := h.fτ, fo := h.fo, fr := ⟨h.fr.os, h.fr.tape, h.fr.output, h.fr.size, h.fr.block⟩ }⟩

theorem any_sound (H : Txt P N w0 C0 E ops l T S) {Q : Exit → Act → World → Prop} (hN : ∀ o ∈ ops.toList, ∀ d, o.dst = some d → d < N) (hQ : ∀ a w, Rep N w0 C0 E (S ops.size) a w → Q .normal a w) :
    ∀ (fuel : Nat) (listed : Array Bool) (a : Act) (w : World), listed.size = ops.size → (listed.toList.countP (fun b => !b) ≤ fuel) → Clos ops (fun j => listed.getD j false = true) →
      Rep N w0 C0 E (sx ops T S (fun j => listed.getD j false = true)) a w → InvX T (fun j => listed.getD j false = true) (sx ops T S (fun j => listed.getD j false = true)) → wpAny P .any ops Q fuel listed a w := by
  have done : ∀ (listed : Array Bool) (a : Act) (w : World), listed.size = ops.size → Region.ready .any ops listed = [] → Rep N w0 C0 E (sx ops T S (fun j => listed.getD j false = true)) a w → Q .normal a w := by
    intro listed a w hsz hr hrep
    have all : ∀ j, j < ops.size → listed.getD j false = true := by
      intro j
      induction j using Nat.strongRecOn with
      | _ j ih =>
        intro hj
        cases hb : listed.getD j false with
        | true => rfl
        | false =>
          exfalso
          obtain ⟨o, ho⟩ := H.at_ hj
          have hjs : j < listed.size := by omega
          have : j ∈ Region.ready .any ops listed := by
            rw [mem_ready]
            refine ⟨by simpa [hjs] using hb, o, ho, fun e he hbd => ?_⟩
            have := H.ok.back _ _ ho e he hbd
            exact ih _ this (by omega)
          rw [hr] at this
          cases this
    have e : sx ops T S (fun j => listed.getD j false = true) = S ops.size := by
      have pr : ∀ {V : Type} {π : St → V} (hD : Dich (stF ops (S 0).g T) π), π (sx ops T S (fun j => listed.getD j false = true)) = π (S ops.size) := by
        intro V π hD
        rw [H.fold (Nat.le_refl _)]
        exact SX_prefix hD (Nat.le_refl _) fun j hj _ => ⟨fun _ => hj, fun _ => all j hj⟩
      have et := fun u => pr (d_t (ops := ops) (γ := (S 0).g) (T := T) u).1
      have eg := fun u => pr (d_g (ops := ops) (γ := (S 0).g) (T := T) u).1
      have eb := fun u => pr (d_b (ops := ops) (γ := (S 0).g) (T := T) u).1
      have ed := fun u => pr (d_d (ops := ops) (γ := (S 0).g) (T := T) u).1
      generalize sx ops T S (fun j => listed.getD j false = true) = A at et eg eb ed
      generalize S ops.size = B at et eg eb ed
      cases A; cases B
      simp only at et eg eb ed
      congr 1 <;> funext u
      · exact et u
      · exact eb u
      · exact ed u
      · exact eg u
    rw [e] at hrep
    exact hQ _ _ hrep
  intro fuel
  induction fuel with
  | zero =>
    intro listed a w hsz hc hcl hrep hinv
    have hr : Region.ready .any ops listed = [] := by
      rw [List.eq_nil_iff_forall_not_mem]
      intro i hi
      obtain ⟨h0, o, ho, _⟩ := mem_ready.1 hi
      have hi' : i < listed.size := by rw [hsz]; exact H.lt_ ho
      have hc0 : listed.toList.countP (fun b => !b) = 0 := by omega
      rw [List.countP_eq_zero] at hc0
      have := hc0 listed[i] (by simp)
      simp [hi'] at h0
      simp [h0] at this
    exact ⟨hr, done listed a w hsz hr hrep⟩
  | succ fuel ih =>
    intro listed a w hsz hc hcl hrep hinv
    refine ⟨fun hr => done listed a w hsz hr hrep, fun i hi => ?_⟩
    obtain ⟨h0, o, ho, hpre⟩ := mem_ready.1 hi
    have hin := H.lt_ ho
    have hi' : i < listed.size := by omega
    have hno : listed.getD i false = false := by simpa [hi'] using h0
    have R : Rdy ops (fun j => listed.getD j false = true) i o :=
      { cl := hcl
        lt := fun j hj => by
          rcases Nat.lt_or_ge j listed.size with h | h
          · omega
          · simp [h] at hj
        at_ := ho
        no := by simp [hno]
        pre := hpre }
    have hX : (fun j => (listed.setIfInBounds i true).getD j false = true) = (fun j => listed.getD j false = true ∨ j = i) := by
      funext j
      apply propext
      by_cases hij : i = j
      · subst hij; simp [hi']
      · rw [getD_set_ne false hij]
        simp [Ne.symm hij]
    have go : ∀ a' w', Rep N w0 C0 E (nx (sx ops T S (fun j => listed.getD j false = true)) o.dst (T i)) a' w' → wpAny P .any ops Q fuel (listed.setIfInBounds i true) a' w' := by
      intro a' w' hr'
      refine ih _ a' w' (by simp [hsz]) ?_ ?_ ?_ ?_
      · have hcnt : (listed.setIfInBounds i true).toList.countP (fun b => !b) + 1 = listed.toList.countP (fun b => !b) := by
          have hl : listed[i] = false := by simpa [hi'] using hno
          rw [Array.toList_setIfInBounds]
          have := List.countP_set (p := fun b : Bool => !b) (l := listed.toList) (i := i) (a := true) (by simpa using hi')
          rw [this]
          have hl' : listed.toList[i]'(by simpa using hi') = false := by simpa using hl
          have hpos : 0 < listed.toList.countP (fun b => !b) := List.countP_pos_iff.2 ⟨listed[i], by simp, by simp [hl]⟩
          simp only [hl', Bool.not_false, Bool.not_true, if_true, Bool.false_eq_true, if_false]
          omega
        omega
      · rw [hX]
        intro j q hj hq e he hb
        rcases hj with hj | rfl
        · exact .inl (hcl j q hj hq e he hb)
        · rw [ho] at hq; cases hq; exact .inl (hpre e he hb)
      · rw [hX, H.insert R hrep hinv, H.stF_nx R hrep]; exact hr'
      · rw [hX]; exact H.inv R hrep hinv
    have htr := H.trx R hrep
    have hNo : ∀ d, o.dst = some d → d < N := hN o (by simpa using Array.mem_of_getElem? ho)
    unfold wpOp
    rw [ho]
    simp only
    obtain ⟨C, ρ, τ, hrG⟩ := id hrep
    have hw := wantA_sound hrG htr.w
    cases hTi : T i with
    | none =>
      rw [hTi] at hw go
      rw [if_neg (by simp [hw])]
      exact go _ _ (skip_sound hrep hNo)
    | some p =>
      rw [hTi] at hw go
      rw [if_pos (by simpa using hw)]
      exact .inl (stp_sound hrep hNo (htr.e p hTi) fun a' w' hr' => go a' w' hr')

/-- The test on regions that draw their order is worth what it must be. -/
theorem drawOK_ok (hm : P.follows .mixedOrders = true) : DOK P (drawOK P) := by
  intro N w0 C0 E l ops id s a w K Q hD hN h hr hQ
  obtain ⟨T, S, hS0, hTS, hap, hK⟩ := trace_of ops.toList s h
  have hlen : ops.toList.length = ops.size := by simp
  rw [hlen] at hap hK
  have htr : ∀ j o, ops[j]? = some o → TR P ops (S j) o (T j) ∧ S (j + 1) = nx (S j) o.dst (T j) := fun j o hj => hTS j o (by simpa using hj)
  have hrep : ∀ j, j ≤ ops.size → ∃ a w, Rep N w0 C0 E (S j) a w := by
    intro j
    induction j with
    | zero => intro _; exact ⟨a, w, by rw [hS0]; exact hr⟩
    | succ j ih =>
      intro hj
      obtain ⟨a', w', h'⟩ := ih (by omega)
      have ho : ops[j]? = some ops[j] := by simp
      rw [(htr j _ ho).2]
      exact rep_nx h' (hN _ (by simp)) (htr j _ ho).1
  have H : Txt P N w0 C0 E ops l T S := ⟨drawOK_sound hD, htr, hap, hrep⟩
  have hno : ∀ j, ¬ ((Array.replicate ops.size false).getD j false = true) := by
    intro j
    by_cases hj : j < ops.size <;> simp [hj]
  have hsx : sx ops T S (fun j => (Array.replicate ops.size false).getD j false = true) = s := by
    unfold sx SX
    have : (List.range ops.size).filter (fun j => @decide ((Array.replicate ops.size false).getD j false = true) (Classical.propDecidable _)) = [] := by
      rw [List.filter_eq_nil_iff]
      intro j _
      simpa using hno j
    rw [this]
    exact hS0
  refine wp_region_any hm (any_sound H hN (fun a w hr => hQ _ _ _ hK hr) ops.size _ a _ (by simp) (by simpa using List.countP_le_length (l := (Array.replicate ops.size false).toList) (p := fun b => !b)) ?_ ?_ ?_)
  · intro i o hi
    exact absurd hi (hno i)
  · rw [hsx]; exact hr.drawn
  · intro j hj
    exact absurd hj (hno j)

end Go.Sy
