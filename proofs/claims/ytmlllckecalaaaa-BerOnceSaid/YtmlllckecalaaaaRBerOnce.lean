/- For every input that the reading takes, the law BerOnce returns true, and each argument reads afterwards as it read before; there is no condition beside the row's own. -/
import Derived.Test.YtmlllckecalaaaaB5653668d
set_option linter.unusedVariables false
set_option linter.unusedSimpArgs false
namespace Go.Proofs.Ytmlllckecalaaaa.Eng
open Go Go.Proofs.Try Go.Proofs.Ytmlllckecalaaaa

set_option maxRecDepth 100000 in
theorem berOnce_lifted (os : Os) (started : os.Started) (H : Type) (enc : TypeId × Value → H) :
    ReturnsInHanded {} Try.checked os 9 .any (Rows.berOnceSpec.pre6 enc prog f9 Rows.berOnceRow.domain false) (Rows.berOnceSpec.post enc prog f9 false true false false) :=
  lifted (C := Try.checked) own_ber started (ts := [9]) (tb := 4) (T := Tber) (by kernel_rfl) func9 (by rw [params9]) (by kernel_rfl) underlying4 rfl
    (fun H ds h => by match ds, h with | [d0], _ => rfl) closed_ber (by decide) laid_ber (fun t ht => by
      simp only [List.mem_cons, List.not_mem_nil, or_false] at ht; rcases ht with rfl <;> exact ⟨by kernel_rfl, of_decide_eq_true (by kernel_rfl)⟩)
    (ChangeSpec.witness6 (enc := enc) (C := Try.checked) false ⟨#[], #[.string ByteArray.empty], []⟩ 8 (by kernel_rfl) (by kernel_rfl) (by kernel_rfl) (by kernel_rfl))
    (fun l h => by
      obtain ⟨a0, r0, rfl, b0, rfl⟩ := h
      obtain ⟨x0, rfl, h0⟩ := arg_str b0
      exact c9 x0)

theorem berOnce_holds : Rows.BerOnceSaid :=
  OpenClaim.holds_of_wide 9 f9 rfl rfl rfl rfl rfl rfl rfl ⟨rfl, rfl, rfl, rfl, rfl⟩ rfl rfl rfl rfl rfl (by kernel_rfl) func9 (by kernel_rfl)
    (of_decide_eq_true (by kernel_rfl)) (by unfold Func.isWrapper; first | (rw [if_pos (by decide +kernel)]; kernel_rfl) | (rw [if_neg (by decide +kernel)]; exact ⟨rfl, rfl⟩))
    (fun os started H enc _ => berOnce_lifted os started H enc)
end Go.Proofs.Ytmlllckecalaaaa.Eng
