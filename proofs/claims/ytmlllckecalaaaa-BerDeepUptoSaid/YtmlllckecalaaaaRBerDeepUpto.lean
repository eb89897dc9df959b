/- For every input that the reading takes and that is of bulk at most 1048576, the law BerDeep returns true, and each argument reads afterwards as it read before; there is no condition beside the row's own. -/
import Derived.Test.YtmlllckecalaaaaB5653668d
set_option linter.unusedVariables false
set_option linter.unusedSimpArgs false
namespace Go.Proofs.Ytmlllckecalaaaa.Eng
open Go Go.Proofs.Try Go.Proofs.Ytmlllckecalaaaa

set_option maxRecDepth 100000 in
theorem berDeepUpto_lifted (os : Os) (started : os.Started) (H : Type) (enc : TypeId × Value → H) (F : Stop.Interp) :
    ReturnsInHanded {} Try.checked os 11 .any ((Rows.OpenSpec.upto Rows.berDeepSpec).pre6 enc prog f11 Rows.berDeepUptoRow.domain false) (((Rows.OpenSpec.upto Rows.berDeepSpec).at F).post enc prog f11 false true false false) :=
  liftedU (C := Try.checked) own_ber started (ts := [3]) (tb := 4) (T := Tber) (by kernel_rfl) func11 (by rw [params11]) (by kernel_rfl) underlying4 rfl
    (fun H ds h => by match ds, h with | [d0], _ => rfl) closed_ber (by decide) laid_ber (fun t ht => by
      simp only [List.mem_cons, List.not_mem_nil, or_false] at ht; rcases ht with rfl <;> exact ⟨by kernel_rfl, of_decide_eq_true (by kernel_rfl)⟩)
    (OpenSpec.witness (enc := enc) (C := Try.checked) (s := Rows.OpenSpec.upto Rows.berDeepSpec) (k := Rows.uptoSmall) rfl false ⟨#[], #[.int .i64 0], []⟩ 8 (by kernel_rfl) (by kernel_rfl) (by kernel_rfl)
      (x := ([.lit (.int .i64 0)], [], [])) (by kernel_rfl) rfl (by kernel_rfl))
    (fun l h => by
      obtain ⟨a0, r0, rfl, b0, rfl⟩ := h
      obtain ⟨x0, rfl, h0⟩ := arg_int b0
      exact c11 x0 h0)

theorem berDeepUpto_holds : Rows.BerDeepUptoSaid :=
  OpenClaim.holds_of_cond 11 f11 rfl rfl rfl rfl rfl rfl rfl ⟨rfl, rfl, rfl, rfl, rfl⟩ rfl rfl rfl rfl rfl (by kernel_rfl) func11 (by kernel_rfl)
    (of_decide_eq_true (by kernel_rfl)) (by unfold Func.isWrapper; first | (rw [if_pos (by decide +kernel)]; kernel_rfl) | (rw [if_neg (by decide +kernel)]; exact ⟨rfl, rfl⟩))
    (fun os started H enc _ F => berDeepUpto_lifted os started H enc F)
end Go.Proofs.Ytmlllckecalaaaa.Eng
