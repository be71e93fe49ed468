import Derived.Test.YtncdakkigkmfjaaProg
import Derived.Test.YtncdakkigkmfjaaSxU
import Derived.IntWalk
import Derived.Test.YtncdakkigkmfjaaK5s0
/-! fareboxlaw09 -/
namespace Go.Proofs.Ytncdakkigkmfjaa.Sx
open Go
set_option linter.unusedVariables false
set_option linter.unusedSimpArgs false
set_option maxRecDepth 100000

def T_fareboxlaw09_KeysDown : TT := [(3, ⟨.int .i64, 1, 8, [.int .i64 0], some .int⟩),
  (4, ⟨.bool, 1, 1, [.bool false], some .bool⟩),
  (23, ⟨.strct [(0, 3), (1, 3), (2, 3), (3, 3)], 4, 32, [.int .i64 0, .int .i64 0, .int .i64 0, .int .i64 0], some .key⟩),
  (24, ⟨.slice 3, 1, 24, [.slice none 0 0], none⟩),
  (25, ⟨.slice 23, 1, 24, [.slice none 0 0], none⟩),
  (27, ⟨.int .i64, 1, 8, [.int .i64 0], none⟩)]
theorem tOk_fareboxlaw09_KeysDown : TOk Try.prog T_fareboxlaw09_KeysDown := tOk_of (by kernel_rfl)
def sp_fareboxlaw09_KeysDown : Spec := fun args hp => match args, hp with
  | [.agg root_cs, .slF 0], [(0, .row o_path .int path)] => (match decS .key root_cs with
    | some root => .vc (path.length ≤ 1048576) (bv true) []
    | none => .fail "struct")
  | _, _ => .fail "fareboxlaw09_KeysDown"
abbrev k_fareboxlaw09_KeysDown : List (Option RK) := [none, some .int]
def a_fareboxlaw09_KeysDown : List SV → List (Nat × VB) → Anns := fun args hp => match args, hp with
  | [.agg root_cs, .slF 0], [(0, .row o_path .int path)] => (match decS .key root_cs with
    | some root => [(9, fun S => .inv [pOf (S.get 7)] [] fun ids vs => { cars := [.i 9 .i64, .blk (atN ids 0) [.st .key], .r 8 true .key], inv := fun ((i, (st, _), way, _) : Int × (Key × Unit) × List Key × Unit) => ∃ j : Nat, j ≤ path.length ∧ i = j ∧ way.length = j + 1 ∧ way.getD j (⟨0, 0, 0, 0⟩ : Key) = st ∧ Way root way ∧ level st = level root + j ∧ go st (level st) (path.drop j) = some (derive root path).1, mu := fun ((i, (st, _), way, _) : Int × (Key × Unit) × List Key × Unit) => path.length - i.toNat }),
    (19, fun S => .inv [] [] fun ids vs => { cars := [.i 12 .i64], inv := fun ((i, _) : Int × Unit) => ∃ j : Nat, j ≤ path.length ∧ i = j, mu := fun ((i, _) : Int × Unit) => i.toNat })]
    | none => [])
  | _, _ => []
set_option maxHeartbeats 20000000 in
theorem ok_fareboxlaw09_KeysDown : GOk Try.prog 4 (lift k_fareboxlaw09_KeysDown sp_fareboxlaw09_KeysDown) := by
  refine pf_ok (T := T_fareboxlaw09_KeysDown) (Γ := (15, lift k_fareboxlaw09_awake sp_fareboxlaw09_awake) :: (16, lift k_keys_Derive sp_keys_Derive) :: (25, lift k_keys_From sp_keys_From) :: (23, lift k_keys_Level sp_keys_Level) :: (18, lift k_keys_Parent sp_keys_Parent) :: []) tOk_fareboxlaw09_KeysDown (gOks_cons ok_fareboxlaw09_awake (gOks_cons ok_keys_Derive (gOks_cons ok_keys_From (gOks_cons ok_keys_Level (gOks_cons ok_keys_Parent (gOks_nil _)))))) mixed Try.func4 (c := body Try.f4) (by kernel_rfl) (by kernel_rfl) k_fareboxlaw09_KeysDown sp_fareboxlaw09_KeysDown (by kernel_rfl) (by kernel_rfl) a_fareboxlaw09_KeysDown ?_
  intro args hp s u hfit h
  unfold sp_fareboxlaw09_KeysDown at h
  split at h
  · rename_i root_cs o_path path
    split at h
    case h_2 => exact h.fail.elim
    rename_i root h_root
    obtain rfl := decS_ok (k := .key) rfl h_root
    clear h_root
    change Key at root
    obtain ⟨hvc, rfl, rfl⟩ := h.vc
    clear h hfit
    change List Int at path
    conv => whnf
    repeat' (first
      | (refine And.intro ?_ ?_ <;> try conv => whnf)
      | (intro hh; first | (cases hh; done) | conv => whnf))
    all_goals try first | rfl | kernel_rfl
    all_goals try simp only [Key_eta, Share_eta, Journey_eta, Batch_eta, FieldT_eta, OpB_eta, Product_eta, Key_beq, Share_beq, Journey_beq, FieldT_beq, Product_beq, toNat0, toNat1, toNat2, toNat3, toNat4, toNat5, toNat6, toNat7, toNat8, toNat9, toNat10, toNat11, toNat12, toNat13, toNat14, toNat15, toNat16, toNat17, toNat18, toNat19, iA, iOf, atS, zK, true_and, and_true, decide_eq_true_eq, decide_eq_false_iff_not, beq_iff_eq, bne_iff_ne, beq_eq_false_iff_ne, bne_eq_false_iff_eq, Bool.not_eq_true', Bool.not_eq_false', Bool.not_eq_true, Bool.not_eq_false, Nat.succ_eq_add_one, Int.not_lt, Int.not_le, gt_iff_lt, ge_iff_le] at *
    all_goals try simp only [List.length_cons, List.length_nil, show bytesS T_fareboxlaw09_KeysDown 25 = 32 from rfl] at *
    all_goals first
      | (refine Vc.mk ?_; omega)
      | (refine Res.mk ?_; rw [derive_bad ‹(derive root path).2 ≠ 0›]; rfl)
      | (obtain ⟨hd0, hd1, hd2⟩ := derive_go ‹(derive root path).2 = 0›
         first
         | exact ⟨⟨0, Nat.zero_le _, rfl, rfl, rfl, ⟨rfl, fun m hm => absurd hm (by simp)⟩, by omega, hd2⟩⟩
         | (obtain ⟨j, hj, rfl, hwl, hws, hW, hlv, hg⟩ := ‹∃ j : Nat, j ≤ path.length ∧ _ = _ ∧ _›
            try simp (disch := omega) only [wrap64, Int.toNat_natCast] at *
            first
            | (refine Vc.mk ?_; omega)
            | (have hdr := drop_getD (d := (0 : Int)) (show j < path.length by omega)
               rw [hdr] at hg
               obtain ⟨l, hl⟩ : ∃ l : Nat, level root + j = l := ⟨(level root + j).toNat, by omega⟩
               rw [hl] at hlv
               rw [hlv] at hg
               obtain ⟨s1, s2, s3, s4⟩ := step_one hlv (by simp; omega) hg
               first
               | exact absurd (congrArg Prod.snd s1) ‹(derive _ [_]).2 ≠ 0›
               | (rw [s1] at *
                  refine ⟨⟨j + 1, by omega, by omega, by simp [hwl], by simp [List.getD, List.getElem?_append, hwl], way_up hW hwl hws hlv s2 s3, by simp only; omega, ?_⟩, by omega⟩
                  simp only [s2]
                  exact s4))
            | (obtain rfl : j = path.length := by omega
               rw [List.drop_length] at hg
               simp only [go, Option.some.injEq] at hg
               have hf := way_from hW hwl (by rw [hws]; omega)
               rw [hws, hg] at hf
               first
               | exact ⟨⟨path.length, Nat.le_refl _, by omega⟩⟩
               | (obtain ⟨i, hi, rfl⟩ := ‹∃ i : Nat, i ≤ path.length ∧ _ = (i : Int)›
                  try simp (disch := omega) only [wrap64, Int.toNat_natCast] at *
                  first
                  | (refine Vc.mk ?_; omega)
                  | exact ⟨trivial⟩
                  | exact ⟨⟨i - 1, by omega, by omega⟩, by omega⟩
                  | (obtain ⟨p1, p2⟩ := way_prev hW (i := i) (by omega) (by omega)
                     try rw [show ((i : Int) - 1).toNat = i - 1 by omega] at *
                     exfalso
                     first
                     | exact ‹(parent _).2 ≠ 0› (congrArg Prod.snd p1)
                     | exact ‹¬ (parent _).1 = _› (congrArg Prod.fst p1)
                     | exact Bool.noConfusion (p2.symm.trans ‹fromK _ [_] = true›)))
               | exact absurd hg ‹¬ _ = (derive root path).1›
               | exact absurd (hf.symm.trans ‹fromK _ _ = false›) (by simp)
               | exact absurd (by rw [← hg]; exact hlv) ‹level (derive root path).1 ≠ _›
               | (simp_all; done))))
  · exact h.fail.elim

end Go.Proofs.Ytncdakkigkmfjaa.Sx
