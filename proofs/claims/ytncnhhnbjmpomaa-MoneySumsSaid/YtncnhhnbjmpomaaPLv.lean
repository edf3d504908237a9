/- The chapter's example of layer 1: it holds. -/
import Derived.Test.YtncnhhnbjmpomaaQ12
import Derived.Test.YtncnhhnbjmpomaaPEq
namespace Go.Proofs.Ytncnhhnbjmpomaa.Q
open Go.RowKit Go.Proofs.YtncnhhnbjmpomaaW.PrintWords Go.Proofs.YtncnhhnbjmpomaaW.PrintLast Go.Proofs.YtncnhhnbjmpomaaW.PrintMore Go.Proofs.Ytncnhhnbjmpomaa Go.Sort
set_option linter.unusedVariables false
set_option linter.unusedSimpArgs false
theorem srt3 : srt #[⟨0, 1⟩, ⟨1, 1⟩, ⟨2, 1⟩] = #[⟨0, 1⟩, ⟨1, 1⟩, ⟨2, 1⟩] := by
  show insOuter (ltOf cf98) 0 3 1 _ = _
  rw [insOuter_go _ _ _ _ _ (by decide)]
  have h1 : insInner (ltOf cf98) 0 1 #[(⟨0, 1⟩ : S98), ⟨1, 1⟩, ⟨2, 1⟩] = #[⟨0, 1⟩, ⟨1, 1⟩, ⟨2, 1⟩] := by rfl
  rw [h1, insOuter_go _ _ _ _ _ (by decide)]
  have h2 : insInner (ltOf cf98) 0 2 #[(⟨0, 1⟩ : S98), ⟨1, 1⟩, ⟨2, 1⟩] = #[⟨0, 1⟩, ⟨1, 1⟩, ⟨2, 1⟩] := by rfl
  rw [h2, insOuter_stop _ _ _ _ _ (by decide)]
theorem split_ex : money_Split.f 10 [1, 1, 1] = some ([4, 3, 3], 0) := by
  unfold money_Split.f
  rw [if_pos (by decide)]
  have hp : partsF 10 [1, 1, 1] = [4, 3, 3] := by
    unfold partsF
    have h1 : (restsF 10 [1, 1, 1].sum 0 [1, 1, 1]).toArray = #[⟨0, 1⟩, ⟨1, 1⟩, ⟨2, 1⟩] := by rfl
    rw [h1, srt3]; rfl
  have : splitF 10 [1, 1, 1] = (partsF 10 [1, 1, 1], 0) := by rfl
  rw [this, hp]
theorem lives01_ok : ∃ m, ∀ k, souklaw01_lives.f (k + m) = some true := by
  obtain ⟨m, hm⟩ := eq_ok [4, 3, 3] [4, 3, 3] (by decide)
  refine ⟨m, fun k => ?_⟩
  unfold souklaw01_lives.f
  rw [split_ex]
  simp only [Option.bind_some]
  rw [if_pos trivial, hm]
  rfl
end Go.Proofs.Ytncnhhnbjmpomaa.Q
