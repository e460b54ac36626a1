/- How a law's row comes out of a contract: what the arguments are, and what the call leaves. -/
import Derived.Test.YtkhheblmgbiniaaRows
import Derived.ProofKit
import Derived.Test.YtkhheblmgbiniaaW0
namespace Go.Sy
open Go Go.Proofs Go.RowKit

/-- All cells of a world. -/
def cmap (W : World) : CMap := fun b o => match W.cell? ⟨b, o, none⟩ with | some v => if v.oneCell' = true then some v else none | none => none
theorem cmap_cw (W : World) : CW (cmap W) W := by
  intro b o v h
  unfold cmap at h
  split at h
  · rename_i u hu
    split at h
    · rename_i h1; cases h; exact ⟨hu, h1⟩
    · cases h
  · cases h
theorem cmap_some {W : World} {b o : Nat} {v : Value} (h : W.cell? ⟨b, o, none⟩ = some v) (h1 : v.oneCell' = true) : cmap W b o = some v := by
  unfold cmap
  rw [h]
  exact if_pos h1

theorem mapM_at {α β : Type} {f : α → Option β} : ∀ {l : List α} {r : List β}, l.mapM f = some r → ∀ (i : Nat) (x : α), l[i]? = some x → ∃ y, f x = some y ∧ r[i]? = some y
  | [], r, h, i, x, hx => by simp at hx
  | a :: l, r, h, i, x, hx => by
    rw [List.mapM_cons] at h
    obtain ⟨y, h1, h⟩ := Option.bind_eq_some_iff.1 h
    obtain ⟨ys, h2, h3⟩ := Option.bind_eq_some_iff.1 h
    cases h3
    cases i with
    | zero => simp at hx; subst hx; exact ⟨y, h1, rfl⟩
    | succ i =>
      obtain ⟨z, h4, h5⟩ := mapM_at h2 i x (by simpa using hx)
      exact ⟨z, h4, by simpa using h5⟩
theorem mapM_size {α β : Type} {f : α → Option β} : ∀ {l : List α} {r : List β}, l.mapM f = some r → r.length = l.length
  | [], r, h => by simp at h; simp [h]
  | a :: l, r, h => by
    rw [List.mapM_cons] at h
    obtain ⟨y, h1, h⟩ := Option.bind_eq_some_iff.1 h
    obtain ⟨ys, h2, h3⟩ := Option.bind_eq_some_iff.1 h
    cases h3
    simp [mapM_size h2]

variable {H : Type} {enc : TypeId × Value → H} {P : Program} {W : World} {sp : Nat → Bool} {held : Bool}

/-- Of a type t each reading gives cells that bear abstract values of the shape S. -/
structure Opens (P : Program) (t : TypeId) (S : List AV → Prop) : Prop where
  get : ∀ {H : Type} (enc : TypeId × Value → H) (W : World) (sp : Nat → Bool) (held : Bool) (fuel : Nat) (cs : List Value) (d : DataW H × List MemPlace), DataW.trod enc P W 0 sp held fuel t cs = some d →
    ∃ x : List AV, S x ∧ cs.length = P.cellsOf t ∧ x.length = cs.length ∧ (∀ c ∈ cs, c.oneCell' = true) ∧ ∀ (j : Nat) (c : Value) (a : AV), cs[j]? = some c → x[j]? = some a → RV (cmap W) noρ noτ c a

theorem opens_int {t : TypeId} {k : IntKind} (hu : P.underlying t = some (.int k)) (hc : P.cellsOf t = 1) : Opens P t (fun x => ∃ n, (Lit.int k n).wf = true ∧ x = [.v (.int k n)]) := by
  refine ⟨fun {H} enc W sp held fuel cs d h => ?_⟩
  cases fuel with
  | zero => cases h
  | succ fuel =>
    unfold DataW.trod at h
    simp only [hu] at h
    split at h
    all_goals try (rename_i heq _; cases heq; done)
    all_goals try (rename_i heq; cases heq; done)
    all_goals try (cases h; done)
    · rename_i k' k2 n heq
      cases heq
      split at h
      · rename_i hk
        obtain ⟨rfl, hw⟩ := hk
        exact ⟨_, ⟨n, hw, rfl⟩, hc.symm ▸ rfl, rfl, by simp [Value.oneCell'], fun j c a h1 h2 => by
          cases j with
          | zero => simp at h1 h2; subst h1 h2; exact .v _ rfl
          | succ j => simp at h1⟩
      · cases h

theorem opens_slice {t e : TypeId} {sz : Nat} {S : List AV → Prop} (hu : P.underlying t = some (.slice e)) (hc : P.cellsOf t = 1) (hce : P.cellsOf e = sz) (hpos : 0 < sz) (he : Opens P e S) :
    Opens P t (fun x => ∃ xs : List (List AV), (∀ y ∈ xs, S y ∧ y.length = sz) ∧ x = [.list sz xs .no]) := by
  subst hce
  refine ⟨fun {H} enc W sp held fuel cs d h => ?_⟩
  cases fuel with
  | zero => cases h
  | succ fuel =>
    unfold DataW.trod at h
    simp only [hu] at h
    split at h
    all_goals try (rename_i heq _; cases heq; done)
    all_goals try (rename_i heq; cases heq; done)
    all_goals try (cases h; done)
    · exact ⟨_, ⟨[], fun y hy => by simp at hy, rfl⟩, hc.symm ▸ rfl, rfl, by simp [Value.oneCell'], fun j c a h1 h2 => by
        cases j with
        | zero =>
          simp at h1 h2; subst h1 h2
          exact .list _ _ _ none 0 0 (fun _ _ => undef) rfl (Nat.le_refl _) (by simp [maxLen]) (fun i x hx => by simp at hx) (fun i x j a hx => by simp at hx) trivial
        | succ j => simp at h1⟩
    · rename_i e' A len cap heq
      cases heq
      split at h
      case isFalse => cases h
      rename_i hcond
      obtain ⟨_, hlc, hcm⟩ := hcond
      obtain ⟨elems, h1, _⟩ := Option.bind_eq_some_iff.1 h
      have each : ∀ i, i < len → ∃ (cs : List Value) (x : List AV), W.cells? 0 (A.add (i * P.cellsOf e)) (P.cellsOf e) = some cs ∧ S x ∧ cs.length = P.cellsOf e ∧ x.length = cs.length ∧ (∀ c ∈ cs, c.oneCell' = true) ∧
          ∀ (j : Nat) (c : Value) (a : AV), cs[j]? = some c → x[j]? = some a → RV (cmap W) noρ noτ c a := by
        intro i hi
        obtain ⟨y, hy, _⟩ := mapM_at h1 i i (by simp [hi])
        obtain ⟨cs, h3, h4⟩ := Option.bind_eq_some_iff.1 hy
        obtain ⟨x, q⟩ := he.get enc W sp held fuel cs y h4
        exact ⟨cs, x, h3, q⟩
      let CS : Nat → List Value := fun i => if h : i < len then Classical.choose (each i h) else []
      let XS : Nat → List AV := fun i => if h : i < len then Classical.choose (Classical.choose_spec (each i h)) else []
      have spec : ∀ i, i < len → W.cells? 0 (A.add (i * P.cellsOf e)) (P.cellsOf e) = some (CS i) ∧ S (XS i) ∧ (CS i).length = P.cellsOf e ∧ (XS i).length = (CS i).length ∧ (∀ c ∈ CS i, c.oneCell' = true) ∧
          ∀ (j : Nat) (c : Value) (a : AV), (CS i)[j]? = some c → (XS i)[j]? = some a → RV (cmap W) noρ noτ c a := by
        intro i hi
        have := Classical.choose_spec (Classical.choose_spec (each i hi))
        simpa only [CS, XS, dif_pos hi] using this
      have cell : ∀ i, i < len → ∀ j, j < P.cellsOf e → W.cell? ((A.add (i * P.cellsOf e)).add j) = (CS i)[j]? := by
        intro i hi j hj
        have h3 := (spec i hi).1
        unfold World.cells? at h3
        rw [if_pos (Nat.zero_le _)] at h3
        obtain ⟨y, h4, h5⟩ := mapM_at h3 j j (by simp [hj])
        rw [h4, h5]
      have hspot : 0 < len → A.spot = none := by
        intro hl
        have h4 := cell 0 hl 0 hpos
        have h5 : (0 : Nat) < (CS 0).length := by rw [(spec 0 hl).2.2.1]; exact hpos
        rw [Nat.zero_mul] at h4
        have e0 : (A.add 0).add 0 = A := rfl
        rw [e0, List.getElem?_eq_getElem h5] at h4
        unfold World.cell? at h4
        split at h4
        · split at h4
          · cases h4
          · rename_i hs; simpa using hs
        · cases h4
      refine ⟨_, ⟨(List.range len).map XS, ?_, rfl⟩, hc.symm ▸ rfl, rfl, by simp [Value.oneCell'], ?_⟩
      · intro y hy
        obtain ⟨i, hi, rfl⟩ := List.mem_map.1 hy
        have hi := List.mem_range.1 hi
        exact ⟨(spec i hi).2.1, by rw [(spec i hi).2.2.2.1, (spec i hi).2.2.1]⟩
      · intro j c a hj1 hj2
        cases j with
        | succ j => simp at hj1
        | zero =>
          simp at hj1 hj2; subst hj1 hj2
          have hget : ∀ (i : Nat) (x : List AV), ((List.range len).map XS)[i]? = some x → i < len ∧ x = XS i := by
            intro i x hx
            simp only [List.getElem?_map] at hx
            obtain ⟨z, hz, rfl⟩ := Option.map_eq_some_iff.1 hx
            have hz2 := List.getElem?_eq_some_iff.1 hz
            obtain ⟨hz3, hz4⟩ := hz2
            simp at hz3 hz4
            subst hz4
            exact ⟨hz3, rfl⟩
          refine .list _ _ _ (some A) len cap (fun i j => (CS i).getD j undef) (by simp) hlc hcm ?_ ?_ trivial
          · intro i x hx
            obtain ⟨hi, rfl⟩ := hget i x hx
            have sp0 := hspot (by omega)
            refine ⟨by rw [(spec i hi).2.2.2.1, (spec i hi).2.2.1], A.block, A.off, ?_, fun j hj => ?_⟩
            · cases A; simp at sp0; subst sp0; rfl
            · have hlt : j < (CS i).length := by rw [(spec i hi).2.2.1]; exact hj
              have h4 := cell i hi j hj
              rw [List.getElem?_eq_getElem hlt] at h4
              have hA : (A.add (i * P.cellsOf e)).add j = ⟨A.block, A.off + i * P.cellsOf e + j, none⟩ := by
                cases A with
                | mk bb oo ss =>
                  simp at sp0; subst sp0
                  unfold Addr.add
                  split <;> split <;> simp_all
              rw [hA] at h4
              have hm := (spec i hi).2.2.2.2.1 _ (List.getElem_mem hlt)
              rw [cmap_some h4 hm]
              simp [hlt]
          · intro i x j a hx ha
            obtain ⟨hi, rfl⟩ := hget i x hx
            have hlt : j < (CS i).length := by
              have := (List.getElem?_eq_some_iff.1 ha).1
              rw [(spec i hi).2.2.2.1] at this
              exact this
            exact (spec i hi).2.2.2.2.2 j _ a (by simp [hlt]) ha

def OpensL (P : Program) (n : Nat) : List Field → Nat → List (Nat × (List AV → Prop)) → Prop
  | [], off, [] => off = n
  | f :: fs, off, (m, S) :: Ss => f.offset = off ∧ P.cellsOf f.type = m ∧ Opens P f.type S ∧ OpensL P n fs (off + m) Ss
  | _, _, _ => False
def ShapeL : List (Nat × (List AV → Prop)) → List AV → Prop
  | [], x => x = []
  | (_, S) :: Ss, x => ∃ y z, S y ∧ ShapeL Ss z ∧ x = y ++ z
theorem opensL {n fuel : Nat} {cs : List Value} (hcs : cs.length = n) : ∀ (fs : List Field) (off : Nat) (Ss : List (Nat × (List AV → Prop))) (r : List (DataW H × List MemPlace)), OpensL P n fs off Ss →
    (fs.mapM fun f => DataW.trod enc P W 0 sp held fuel f.type ((cs.drop f.offset).take (P.cellsOf f.type))) = some r →
    ∃ x : List AV, ShapeL Ss x ∧ x.length = (cs.drop off).length ∧ (∀ c ∈ cs.drop off, c.oneCell' = true) ∧ ∀ (j : Nat) (c : Value) (a : AV), (cs.drop off)[j]? = some c → x[j]? = some a → RV (cmap W) noρ noτ c a
  | [], off, [], r, ho, h => by
    have ho : off = n := ho
    have : cs.drop off = [] := List.drop_eq_nil_of_le (by omega)
    rw [this]
    exact ⟨[], rfl, rfl, by simp, fun j c a h1 => by simp at h1⟩
  | f :: fs, off, (m, S) :: Ss, r, ho, h => by
    obtain ⟨hoff, hm, hop, hol⟩ := ho
    subst hm
    rw [List.mapM_cons] at h
    obtain ⟨d, h1, h⟩ := Option.bind_eq_some_iff.1 h
    obtain ⟨ys, h2, _⟩ := Option.bind_eq_some_iff.1 h
    rw [hoff] at h1
    obtain ⟨y, q1, q2, q3, q4, q5⟩ := hop.get enc W sp held fuel _ d h1
    obtain ⟨z, p1, p2, p3, p4⟩ := opensL hcs fs _ Ss ys hol h2
    have hlen : ((cs.drop off).take (P.cellsOf f.type)).length = P.cellsOf f.type := q2
    have hsplit : cs.drop off = (cs.drop off).take (P.cellsOf f.type) ++ cs.drop (off + P.cellsOf f.type) := by
      rw [← List.drop_drop, List.take_append_drop]
    refine ⟨y ++ z, ⟨y, z, q1, p1, rfl⟩, ?_, ?_, ?_⟩
    · rw [List.length_append, q3, p2, ← List.length_append, ← hsplit]
    · intro c hc
      rw [hsplit] at hc
      rcases List.mem_append.1 hc with hc | hc
      · exact q4 c hc
      · exact p3 c hc
    · intro j c a hc ha
      rw [hsplit] at hc
      by_cases hj : j < ((cs.drop off).take (P.cellsOf f.type)).length
      · rw [List.getElem?_append_left hj] at hc
        rw [List.getElem?_append_left (by rw [q3]; exact hj)] at ha
        exact q5 j c a hc ha
      · rw [List.getElem?_append_right (by omega)] at hc
        rw [List.getElem?_append_right (by rw [q3]; omega), q3] at ha
        exact p4 _ c a hc ha
theorem opens_struct {t : TypeId} {fs : Array Field} {n : Nat} {Ss : List (Nat × (List AV → Prop))} (hu : P.underlying t = some (.struct fs)) (hn : P.cellsOf t = n) (h : OpensL P n fs.toList 0 Ss) : Opens P t (ShapeL Ss) := by
  subst hn
  refine ⟨fun {H} enc W sp held fuel cs d hd => ?_⟩
  cases fuel with
  | zero => cases hd
  | succ fuel =>
    unfold DataW.trod at hd
    simp only [hu] at hd
    split at hd
    case isFalse => cases hd
    rename_i hcs
    obtain ⟨r, h1, _⟩ := Option.map_eq_some_iff.1 hd
    obtain ⟨x, q1, q2, q3, q4⟩ := opensL hcs _ _ _ _ h h1
    exact ⟨x, q1, hcs, by simpa using q2, by simpa using q3, by simpa using q4⟩
end Go.Sy
