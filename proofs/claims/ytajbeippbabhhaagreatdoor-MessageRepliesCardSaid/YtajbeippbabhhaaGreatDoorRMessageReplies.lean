/- For every input that the reading takes, the law MessageReplies returns true, and each argument reads afterwards as it read before; there is no condition beside the row's own. -/
import Derived.SevenTiedAt
import Derived.Test.YtajbeippbabhhaaGreatDoorCards
import Derived.Test.YtajbeippbabhhaaGreatDoorTie
import Derived.Test.YtajbeippbabhhaaGreatDoorB528ddb5c
set_option linter.unusedVariables false
set_option linter.unusedSimpArgs false
namespace Go.Proofs.YtajbeippbabhhaaGreatDoor.Eng
open Go Go.Proofs.Tryz Go.Proofs.YtajbeippbabhhaaGreatDoor

theorem contractR (n : Int) (hn : i64ok n) : Pure prog 8 [.int .i64 n] (.bool true) := cl_replies n

def layTab (zs : List Nat) : Obj → Obj
  | .cells _ t frozen => .cells (zs.map fun (z : Nat) => Value.int .u8 (z : Int)).toArray t frozen
  | o => o
noncomputable def laidWorld (os : Os) : World :=
  { World.holding prog os ⟨#[], #[], []⟩ with heap := ((World.holding prog os ⟨#[], #[], []⟩).heap.modify 1 (layTab Pinned.utf8FirstZ)).modify 2 (layTab [128, 191, 160, 191, 128, 159, 144, 191, 128, 143, 0, 0, 0, 0, 0, 0, 0, 0, 0, 0, 0, 0, 0, 0, 0, 0, 0, 0, 0, 0, 0, 0]) }

theorem laid_met (os : Os) : laidMet prog Rows.messageRepliesRow.laid ((laidWorld os).forCall (fun _ _ => 0) ⟨#[], #[.int .i64 0], []⟩).memory :=
  laidMet_of_run' 8 (by kernel_rfl) (by kernel_rfl)
theorem readsW (os : Os) {H : Type} (enc : TypeId × Value → H) : ∃ places, DataW.whole enc prog ((laidWorld os).forCall (fun _ _ => 0) ⟨#[], #[.int .i64 0], []⟩).memory f8.params.toList Rows.messageRepliesSpec.vars false #[Value.int .i64 0].toList 8 = some ([.lit (.int .i64 0)], [], places) :=
  ⟨[], by kernel_rfl⟩

set_option maxRecDepth 100000 in
theorem messageReplies_lifted (os : Os) (started : os.Started) (H : Type) (enc : TypeId × Value → H) (F : Stop.Interp) :
    ReturnsInHanded {} Tryz.checked os 8 .any ((OpenSpec.ofChange Rows.messageRepliesSpec).preRow enc prog f8 Rows.messageRepliesRow.domain false Rows.messageRepliesRow.laid) (((OpenSpec.ofChange Rows.messageRepliesSpec).at F).post enc prog f8 false true false false) := by
  obtain ⟨places, hx⟩ := readsW os enc
  exact liftedRow (C := Tryz.checked) (k := none) (s := Rows.messageRepliesSpec) own_ber started (ts := [3]) (tb := 4) (T := Tber) (by kernel_rfl) func8 (by rw [params8]) (by kernel_rfl) underlying4 rfl
    (fun H ds h => by match ds, h with | [d0], _ => rfl) closed_ber (by decide) laid_ber (fun t ht => by
      simp only [List.mem_cons, List.not_mem_nil, or_false] at ht; rcases ht with rfl <;> exact ⟨by kernel_rfl, of_decide_eq_true (by kernel_rfl)⟩)
    (witness_row_at (enc := enc) (C := Tryz.checked) false (laidWorld os) #[.int .i64 0] rfl (by kernel_rfl) (by kernel_rfl) (by kernel_rfl)
      (OpenSpec.preRow_of_cond 8 hx (by kernel_rfl) (fun k hk => by cases hk) (by kernel_rfl) (laid_met os)))
    (fun l h => by
      obtain ⟨a0, r0, rfl, b0, rfl⟩ := h
      obtain ⟨x0, rfl, h0⟩ := arg_int b0
      exact contractR x0 h0)

theorem closedR : joinedFacts Tryz.pinned.checked.prog 8 f8 (OpenSpec.ofChange Rows.messageRepliesSpec).bare Rows.messageRepliesRow = true := by kernel_rfl
theorem namedR : Tryz.pinned.checked.prog.funcNamed Rows.messageRepliesRow.func = some 8 := by kernel_rfl
theorem messageReplies_said : Rows.MessageRepliesSaid :=
  OpenClaim.holds_of_cond 8 f8 rfl rfl rfl rfl rfl rfl rfl ⟨rfl, rfl, rfl, rfl, rfl⟩ rfl rfl rfl rfl rfl namedR func8 closedR
    (of_decide_eq_true (by kernel_rfl)) (by unfold Func.isWrapper; first | (rw [if_pos (by decide +kernel)]; kernel_rfl) | (rw [if_neg (by decide +kernel)]; exact ⟨rfl, rfl⟩))
    (fun os started H enc _ F => by rw [OpenClaim.pre_eq_preRow]; exact messageReplies_lifted os started H enc F)

end Go.Proofs.YtajbeippbabhhaaGreatDoor.Eng

namespace Go.Proofs.YtajbeippbabhhaaGreatDoor.Eng
open Go Go.Proofs.Tryz Go.Proofs.YtajbeippbabhhaaGreatDoor

theorem plainR (f : FuncId) (fn : Func) (hf : Tryz.pinned.checked.prog.funcNamed "chancery/chancerylaw9.MessageReplies" = some f) (hfn : Tryz.pinned.checked.prog.funcs[f]? = some fn) :
    true = Tryz.pinned.checked.prog.looks [] ∧ ∀ (j : Nat) t, fn.params[j]? = some t → Tryz.pinned.checked.prog.wantsStandIn t = false := by
  obtain rfl : f = 8 := Option.some.inj ((show prog.funcNamed "chancery/chancerylaw9.MessageReplies" = some 8 by kernel_rfl).symm.trans hf) |>.symm
  obtain rfl : fn = f8 := (Option.some.inj (func8.symm.trans hfn)).symm
  refine ⟨by kernel_rfl, fun j t ht => ?_⟩
  rw [params8] at ht
  obtain rfl : t = 3 := by simpa using Array.mem_of_getElem? ht
  exact (show prog.wantsStandIn 3 = false by kernel_rfl)

theorem messageReplies_holds : Rows.MessageRepliesCardSaid :=
  Claim7.holds_tied_plain_at .later [] _ _ _ _ messageReplies_said (fun _ h => by cases h) (by kernel_rfl) (fun _ h => by cases h) messageReplies_row_tie rfl ⟨rfl, rfl⟩ (by kernel_rfl) rfl plainR (by kernel_rfl)
end Go.Proofs.YtajbeippbabhhaaGreatDoor.Eng
