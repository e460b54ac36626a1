/- The type of arrows. -/
import Derived.Test.YtkhheblmgbiniaaR2
import Derived.Test.YtkhheblmgbiniaaSH
namespace Go.Sy
open Go Go.Proofs Go.RowKit Go.Proofs.Ytkhheblmgbiniaa

theorem opensArrow : Opens Try.prog 86 (fun x => ∃ g, x = arcs g) := (opens_struct (n := 4) (Ss := [(2, _), (2, _)]) Try.underlying86 (by kernel_rfl) ⟨rfl, by kernel_rfl, opensGraph, rfl, by kernel_rfl, opensMorphism, rfl⟩).mono fun x h => by
  obtain ⟨_, _, ⟨a, rfl⟩, ⟨_, _, ⟨b, rfl⟩, rfl, rfl⟩, rfl⟩ := h
  exact ⟨⟨a, b⟩, rfl⟩
end Go.Sy
