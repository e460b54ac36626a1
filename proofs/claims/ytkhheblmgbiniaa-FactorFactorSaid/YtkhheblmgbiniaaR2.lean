/- More types of arguments. -/
import Derived.Test.YtkhheblmgbiniaaR1
namespace Go.Sy
open Go Go.Proofs Go.RowKit Go.Proofs.Ytkhheblmgbiniaa

theorem opensOv : Opens Try.prog 43 (fun x => ∃ g, x = ocs g) := (opens_struct (n := 6) (Ss := [(2, _), (2, _), (2, _)]) Try.underlying43 (by kernel_rfl) ⟨rfl, by kernel_rfl, opensGraph, rfl, by kernel_rfl, opensMorphism, rfl, by kernel_rfl, opensMorphism, rfl⟩).mono fun x h => by
  obtain ⟨_, _, ⟨a, rfl⟩, ⟨_, _, ⟨b, rfl⟩, ⟨_, _, ⟨c, rfl⟩, rfl, rfl⟩, rfl⟩, rfl⟩ := h
  exact ⟨⟨a, b, c⟩, rfl⟩
end Go.Sy
