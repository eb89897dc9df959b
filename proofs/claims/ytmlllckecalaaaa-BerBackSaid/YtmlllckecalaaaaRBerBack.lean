/- For every input that the reading takes, the law BerBack returns true, and each argument reads afterwards as it read before; there is no condition beside the row's own. -/
import Derived.Test.YtmlllckecalaaaaBb468770d
set_option linter.unusedVariables false
set_option linter.unusedSimpArgs false
namespace Go.Proofs.Ytmlllckecalaaaa.Eng
open Go Go.Proofs.Try Go.Proofs.Ytmlllckecalaaaa

set_option maxRecDepth 100000 in
theorem berBack_lifted (os : Os) (started : os.Started) (H : Type) (enc : TypeId × Value → H) :
    ReturnsInHanded {} Try.checked os 8 .any (Rows.berBackSpec.pre6 enc prog f8 Rows.berBackRow.domain false) (Rows.berBackSpec.post enc prog f8 false true false false) :=
  lifted (C := Try.checked) own_ber started (ts := [24]) (tb := 4) (T := Tber) (by kernel_rfl) func8 (by rw [params8]) (by kernel_rfl) underlying4 rfl
    (fun H ds h => by match ds, h with | [d0], _ => rfl) closed_ber (by decide) laid_ber (fun t ht => by
      simp only [List.mem_cons, List.not_mem_nil, or_false] at ht; rcases ht with rfl <;> exact ⟨by kernel_rfl, of_decide_eq_true (by kernel_rfl)⟩)
    (ChangeSpec.witness6 (enc := enc) (C := Try.checked) false ⟨#[], #[.agg #[.int .i64 0, .int .i64 0, .bool false, .string ByteArray.empty, .slice none 0 0]], []⟩ 8 (by kernel_rfl) (by kernel_rfl) (by kernel_rfl) (by kernel_rfl))
    (fun l h => by
      obtain ⟨a0, r0, rfl, b0, rfl⟩ := h
      obtain ⟨e0, rfl, h0⟩ := arg_elem b0
      exact c8 e0 h0)

theorem berBack_holds : Rows.BerBackSaid :=
  OpenClaim.holds_of_wide 8 f8 rfl rfl rfl rfl rfl rfl rfl ⟨rfl, rfl, rfl, rfl, rfl⟩ rfl rfl rfl rfl rfl (by kernel_rfl) func8 (by kernel_rfl)
    (of_decide_eq_true (by kernel_rfl)) (by unfold Func.isWrapper; first | (rw [if_pos (by decide +kernel)]; kernel_rfl) | (rw [if_neg (by decide +kernel)]; exact ⟨rfl, rfl⟩))
    (fun os started H enc _ => berBack_lifted os started H enc)
end Go.Proofs.Ytmlllckecalaaaa.Eng
