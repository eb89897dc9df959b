/- For every input that the reading takes, the law BerMakes returns true, and each argument reads afterwards as it read before; there is no condition beside the row's own. -/
import Derived.Test.YtmlllckecalaaaaB6507f7a1
set_option linter.unusedVariables false
set_option linter.unusedSimpArgs false
namespace Go.Proofs.Ytmlllckecalaaaa.Eng
open Go Go.Proofs.Try Go.Proofs.Ytmlllckecalaaaa

set_option maxRecDepth 100000 in
theorem berMakes_lifted (os : Os) (started : os.Started) (H : Type) (enc : TypeId × Value → H) :
    ReturnsInHanded {} Try.checked os 5 .any (Rows.berMakesSpec.pre6 enc prog f5 Rows.berMakesRow.domain false) (Rows.berMakesSpec.post enc prog f5 false true false false) :=
  lifted (C := Try.checked) own_ber started (ts := [24, 3, 3, 3, 9, 4]) (tb := 4) (T := Tber) (by kernel_rfl) func5 (by rw [params5]) (by kernel_rfl) underlying4 rfl
    (fun H ds h => by match ds, h with | [d0, d1, d2, d3, d4, d5], _ => rfl) closed_ber (by decide) laid_ber (fun t ht => by
      simp only [List.mem_cons, List.not_mem_nil, or_false] at ht; rcases ht with rfl | rfl | rfl | rfl | rfl | rfl <;> exact ⟨by kernel_rfl, of_decide_eq_true (by kernel_rfl)⟩)
    (ChangeSpec.witness6 (enc := enc) (C := Try.checked) false ⟨#[], #[.agg #[.int .i64 0, .int .i64 0, .bool false, .string ByteArray.empty, .slice none 0 0], .int .i64 0, .int .i64 0, .int .i64 0, .string ByteArray.empty, .bool false], []⟩ 8 (by kernel_rfl) (by kernel_rfl) (by kernel_rfl) (by kernel_rfl))
    (fun l h => by
      obtain ⟨a0, r0, rfl, b0, q0⟩ := h
      obtain ⟨a1, r1, rfl, b1, q1⟩ := q0
      obtain ⟨a2, r2, rfl, b2, q2⟩ := q1
      obtain ⟨a3, r3, rfl, b3, q3⟩ := q2
      obtain ⟨a4, r4, rfl, b4, q4⟩ := q3
      obtain ⟨a5, r5, rfl, b5, rfl⟩ := q4
      obtain ⟨e0, rfl, h0⟩ := arg_elem b0
      obtain ⟨x1, rfl, h1⟩ := arg_int b1
      obtain ⟨x2, rfl, h2⟩ := arg_int b2
      obtain ⟨x3, rfl, h3⟩ := arg_int b3
      obtain ⟨x4, rfl, h4⟩ := arg_str b4
      obtain ⟨x5, rfl⟩ := arg_bool b5
      exact c5 e0 x1 x2 x3 x4 x5 h0 h1 h2 h4)

theorem berMakes_holds : Rows.BerMakesSaid :=
  OpenClaim.holds_of_wide 5 f5 rfl rfl rfl rfl rfl rfl rfl ⟨rfl, rfl, rfl, rfl, rfl⟩ rfl rfl rfl rfl rfl (by kernel_rfl) func5 (by kernel_rfl)
    (of_decide_eq_true (by kernel_rfl)) (by unfold Func.isWrapper; first | (rw [if_pos (by decide +kernel)]; kernel_rfl) | (rw [if_neg (by decide +kernel)]; exact ⟨rfl, rfl⟩))
    (fun os started H enc _ => berMakes_lifted os started H enc)
end Go.Proofs.Ytmlllckecalaaaa.Eng
