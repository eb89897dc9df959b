/- For every input that the reading takes, the law BerGets returns true, and each argument reads afterwards as it read before; there is no condition beside the row's own. -/
import Derived.Test.YtmlllckecalaaaaB6507f7a1
set_option linter.unusedVariables false
set_option linter.unusedSimpArgs false
namespace Go.Proofs.Ytmlllckecalaaaa.Eng
open Go Go.Proofs.Try Go.Proofs.Ytmlllckecalaaaa

set_option maxRecDepth 100000 in
theorem berGets_lifted (os : Os) (started : os.Started) (H : Type) (enc : TypeId × Value → H) :
    ReturnsInHanded {} Try.checked os 6 .any (Rows.berGetsSpec.pre6 enc prog f6 Rows.berGetsRow.domain false) (Rows.berGetsSpec.post enc prog f6 false true false false) :=
  lifted (C := Try.checked) own_ber started (ts := [24, 3, 3]) (tb := 4) (T := Tber) (by kernel_rfl) func6 (by rw [params6]) (by kernel_rfl) underlying4 rfl
    (fun H ds h => by match ds, h with | [d0, d1, d2], _ => rfl) closed_ber (by decide) laid_ber (fun t ht => by
      simp only [List.mem_cons, List.not_mem_nil, or_false] at ht; rcases ht with rfl | rfl | rfl <;> exact ⟨by kernel_rfl, of_decide_eq_true (by kernel_rfl)⟩)
    (ChangeSpec.witness6 (enc := enc) (C := Try.checked) false ⟨#[], #[.agg #[.int .i64 0, .int .i64 0, .bool false, .string ByteArray.empty, .slice none 0 0], .int .i64 0, .int .i64 0], []⟩ 8 (by kernel_rfl) (by kernel_rfl) (by kernel_rfl) (by kernel_rfl))
    (fun l h => by
      obtain ⟨a0, r0, rfl, b0, q0⟩ := h
      obtain ⟨a1, r1, rfl, b1, q1⟩ := q0
      obtain ⟨a2, r2, rfl, b2, rfl⟩ := q1
      obtain ⟨e0, rfl, h0⟩ := arg_elem b0
      obtain ⟨x1, rfl, h1⟩ := arg_int b1
      obtain ⟨x2, rfl, h2⟩ := arg_int b2
      exact c6 e0 x1 x2 h0)

theorem berGets_holds : Rows.BerGetsSaid :=
  OpenClaim.holds_of_wide 6 f6 rfl rfl rfl rfl rfl rfl rfl ⟨rfl, rfl, rfl, rfl, rfl⟩ rfl rfl rfl rfl rfl (by kernel_rfl) func6 (by kernel_rfl)
    (of_decide_eq_true (by kernel_rfl)) (by unfold Func.isWrapper; first | (rw [if_pos (by decide +kernel)]; kernel_rfl) | (rw [if_neg (by decide +kernel)]; exact ⟨rfl, rfl⟩))
    (fun os started H enc _ => berGets_lifted os started H enc)
end Go.Proofs.Ytmlllckecalaaaa.Eng
