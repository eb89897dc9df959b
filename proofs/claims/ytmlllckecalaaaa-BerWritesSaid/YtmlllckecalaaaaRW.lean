/- For every element of at most the sizes that the reading takes, the law BerWrites returns true, and its argument reads afterwards as it read before; there is no condition beside the row's own. -/
import Derived.Test.YtmlllckecalaaaaBW3
set_option linter.unusedVariables false
set_option linter.unusedSimpArgs false
namespace Go.Proofs.Ytmlllckecalaaaa.Eng
open Go Go.Proofs.Try Go.Proofs.Ytmlllckecalaaaa

set_option maxRecDepth 100000 in
theorem berWrites_lifted (os : Os) (started : os.Started) (H : Type) (enc : TypeId × Value → H) :
    ReturnsInHanded {} Try.checked os 3 .any (Rows.berWritesSpec.pre6 enc prog f3 Rows.berWritesRow.domain false) (Rows.berWritesSpec.post enc prog f3 false true false false) :=
  lifted (C := Try.checked) own_ber started (ts := [24]) (tb := 4) (T := Tber) (by kernel_rfl) func3 (by rw [params3]) (by kernel_rfl) underlying4 rfl
    (fun H ds h => by match ds, h with | [d], _ => rfl) closed_ber (by decide) laid_ber (fun t ht => by
      simp only [List.mem_cons, List.not_mem_nil, or_false] at ht; subst ht; exact ⟨by kernel_rfl, of_decide_eq_true (by kernel_rfl)⟩)
    (ChangeSpec.witness6 (enc := enc) (C := Try.checked) false ⟨#[], #[.agg #[.int .i64 0, .int .i64 0, .bool false, .string ByteArray.empty, .slice none 0 0]], []⟩ 8 (by kernel_rfl) (by kernel_rfl) (by kernel_rfl) (by kernel_rfl))
    (fun l h => by
      obtain ⟨a, r, rfl, ha, rfl⟩ := h
      obtain ⟨e, rfl, he⟩ := arg_elem ha
      exact c3 e he)

theorem berWrites_holds : Rows.BerWritesSaid :=
  OpenClaim.holds_of_wide 3 f3 rfl rfl rfl rfl rfl rfl rfl ⟨rfl, rfl, rfl, rfl, rfl⟩ rfl rfl rfl rfl rfl (by kernel_rfl) func3 (by kernel_rfl)
    (of_decide_eq_true (by kernel_rfl)) (by unfold Func.isWrapper; first | (rw [if_pos (by decide +kernel)]; kernel_rfl) | (rw [if_neg (by decide +kernel)]; exact ⟨rfl, rfl⟩))
    (fun os started H enc _ => berWrites_lifted os started H enc)
end Go.Proofs.Ytmlllckecalaaaa.Eng
