import Derived.Test.YtkkjjablmmmmkaaGreatDoorQ33
set_option linter.all false
namespace Go.Proofs.YtkkjjablmmmmkaaGreatDoor
open Go Go.RowKit Sl Eg
theorem Sq.none {L : List Rl} {lv : Nat} {ids : List Nat} (h : Sq L lv ids []) : ids = [] := by
 unfold Sq at h
 cases ids with
 | nil => rfl
 | cons x r =>
  split at h
  ·exact absurd rfl h.nonempty
  exact absurd rfl h.nonempty
end Go.Proofs.YtkkjjablmmmmkaaGreatDoor
