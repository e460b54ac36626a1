/- Types of arguments: drafts. -/
import Derived.Test.YtkhheblmgbiniaaR2
import Derived.Test.YtkhheblmgbiniaaWP
namespace Go.Sy
open Go Go.Proofs Go.RowKit Go.Proofs.Ytkhheblmgbiniaa

theorem mapM_map' {α β γ : Type} (f : α → β) (g : β → Option γ) : ∀ l : List α, (l.map f).mapM g = l.mapM fun x => g (f x)
  | [] => rfl
  | x :: l => by rw [List.map_cons, List.mapM_cons, List.mapM_cons, mapM_map' f g l]
def arrF (e : TypeId) (sz i : Nat) : Field := { (default : Field) with type := e, offset := i * sz }
theorem opens_array {P : Program} {t e : TypeId} {n sz N : Nat} {Ss : List (Nat × (List AV → Prop))} (hu : P.underlying t = some (.array n e)) (hc : P.cellsOf e = sz) (hn : P.cellsOf t = N) (h : OpensL P N ((List.range n).map (arrF e sz)) 0 Ss) : Opens P t (ShapeL Ss) := by
  subst hn
  refine ⟨fun {H} enc W sp held fuel cs d hd => ?_⟩
  cases fuel with
  | zero => cases hd
  | succ fuel =>
    unfold DataW.trod at hd
    simp only [hu] at hd
    split at hd
    case isFalse => cases hd
    rename_i hcs
    obtain ⟨r, h1, _⟩ := Option.map_eq_some_iff.1 hd
    have h2 : ((List.range n).map (arrF e sz)).mapM (fun f => DataW.trod enc P W 0 sp held fuel f.type ((cs.drop f.offset).take (P.cellsOf f.type))) = some r := by
      rw [mapM_map']
      simp only [arrF]
      rw [← h1, hc]
    obtain ⟨x, q1, q2, q3, q4⟩ := opensL hcs _ _ _ _ h h2
    exact ⟨x, q1, hcs, by simpa using q2, by simpa using q3, by simpa using q4⟩
def byte (n : Int) : Prop := 0 ≤ n ∧ n ≤ 255
theorem opensU8 : Opens Try.prog 5 (fun x => ∃ n : Int, byte n ∧ x = [u8 n]) := (opens_int (k := .u8) (by kernel_rfl) (by kernel_rfl)).mono fun x ⟨n, hw, h⟩ => by
  refine ⟨n, ?_, h⟩
  have h1 : IntKind.u8.min = 0 := by decide
  have h2 : IntKind.u8.max = 255 := by decide
  simp [Lit.wf] at hw
  unfold byte
  omega
theorem opensTri : Opens Try.prog 127 (fun x => ∃ e : Ed, (byte e.1 ∧ byte e.2.1 ∧ byte e.2.2) ∧ x = tcs e) := (opens_array (n := 3) (e := 5) (sz := 1) (N := 3) (Ss := [(1, _), (1, _), (1, _)]) (by kernel_rfl) (by kernel_rfl) (by kernel_rfl) ⟨rfl, by kernel_rfl, opensU8, rfl, by kernel_rfl, opensU8, rfl, by kernel_rfl, opensU8, rfl⟩).mono fun x h => by
  obtain ⟨_, _, ⟨a, ha, rfl⟩, ⟨_, _, ⟨b, hb, rfl⟩, ⟨_, _, ⟨c, hc, rfl⟩, rfl, rfl⟩, rfl⟩, rfl⟩ := h
  exact ⟨(a, b, c), ⟨ha, hb, hc⟩, rfl⟩
theorem listOfP {β : Type} {f : β → List AV} {p : β → Prop} {xs : List (List AV)} (h : ∀ y ∈ xs, ∃ b, p b ∧ y = f b) : ∃ l : List β, (∀ b ∈ l, p b) ∧ xs = l.map f := by
  induction xs with
  | nil => exact ⟨[], by simp, rfl⟩
  | cons x xs ih =>
    obtain ⟨b, hb, rfl⟩ := h x (by simp)
    obtain ⟨l, hl, rfl⟩ := ih (fun y hy => h y (by simp [hy]))
    refine ⟨b :: l, fun y hy => ?_, rfl⟩
    rcases List.mem_cons.1 hy with rfl | hy
    · exact hb
    · exact hl y hy
theorem opensBytes : Opens Try.prog 47 (fun x => ∃ l : List Int, (∀ n ∈ l, byte n) ∧ x = [.list 1 (l.map fun n => [u8 n]) .no]) := (opens_slice (e := 5) (sz := 1) (by kernel_rfl) (by kernel_rfl) (by kernel_rfl) (by decide) opensU8).mono fun x ⟨xs, h, hx⟩ => by
  obtain ⟨l, hl, rfl⟩ := listOfP (f := fun n => [u8 n]) (fun y hy => (h y hy).1)
  exact ⟨l, hl, hx⟩
theorem opensTris : Opens Try.prog 48 (fun x => ∃ l : List Ed, (∀ e ∈ l, byte e.1 ∧ byte e.2.1 ∧ byte e.2.2) ∧ x = [.list 3 (l.map tcs) .no]) := (opens_slice (e := 127) (sz := 3) (by kernel_rfl) (by kernel_rfl) (by kernel_rfl) (by decide) opensTri).mono fun x ⟨xs, h, hx⟩ => by
  obtain ⟨l, hl, rfl⟩ := listOfP (f := tcs) (fun y hy => (h y hy).1)
  exact ⟨l, hl, hx⟩
structure DrP where
  d : Dr
  ok : drOK d
theorem opensDraft : Opens Try.prog 50 (fun x => ∃ d : DrP, x = dcs d.d) := (opens_struct (n := 2) (Ss := [(1, _), (1, _)]) Try.underlying50 (by kernel_rfl) ⟨rfl, by kernel_rfl, opensBytes, rfl, by kernel_rfl, opensTris, rfl⟩).mono fun x h => by
  obtain ⟨_, _, ⟨a, ha, rfl⟩, ⟨_, _, ⟨b, hb, rfl⟩, rfl, rfl⟩, rfl⟩ := h
  exact ⟨⟨⟨a, b⟩, ⟨ha, hb⟩⟩, rfl⟩
end Go.Sy
