import Derived.Test.YtncdakkigkmfjaaProg
import Derived.Test.YtncdakkigkmfjaaSxU
import Derived.IntWalk
import Derived.Test.YtncdakkigkmfjaaK1s0
/-! keys -/
namespace Go.Proofs.Ytncdakkigkmfjaa.Sx
open Go
set_option linter.unusedVariables false
set_option linter.unusedSimpArgs false
set_option maxRecDepth 100000

def T_fareboxref09_Row : TT := [(3, ⟨.int .i64, 1, 8, [.int .i64 0], some .int⟩),
  (23, ⟨.strct [(0, 3), (1, 3), (2, 3), (3, 3)], 4, 32, [.int .i64 0, .int .i64 0, .int .i64 0, .int .i64 0], some .key⟩),
  (104, ⟨.arr 3 3, 3, 24, [.int .i64 0, .int .i64 0, .int .i64 0], none⟩)]
theorem tOk_fareboxref09_Row : TOk Try.prog T_fareboxref09_Row := tOk_of (by kernel_rfl)
def sp_fareboxref09_Row : Spec := fun args hp => match args, hp with
  | [.agg k_cs], [] => (match decS .key k_cs with
    | some k => .ok (.agg [iv k.op, iv k.ty, iv k.card]) []
    | none => .fail "struct")
  | _, _ => .fail "fareboxref09_Row"
abbrev k_fareboxref09_Row : List (Option RK) := [none]
def a_fareboxref09_Row : List SV → List (Nat × VB) → Anns := fun _ _ => []
set_option maxHeartbeats 20000000 in
theorem ok_fareboxref09_Row : GOk Try.prog 61 (lift k_fareboxref09_Row sp_fareboxref09_Row) := by
  refine pf_ok (T := T_fareboxref09_Row) (Γ := []) tOk_fareboxref09_Row (gOks_nil _) mixed Try.func61 (c := body Try.f61) (by kernel_rfl) (by kernel_rfl) k_fareboxref09_Row sp_fareboxref09_Row (by kernel_rfl) (by kernel_rfl) a_fareboxref09_Row ?_
  intro args hp s u hfit h
  unfold sp_fareboxref09_Row at h
  split at h
  · rename_i k_cs
    split at h
    case h_2 => exact h.fail.elim
    rename_i k h_k
    obtain rfl := decS_ok (k := .key) rfl h_k
    clear h_k
    change Key at k
    obtain ⟨rfl, rfl⟩ := h.ok
    clear h hfit
    conv => whnf
    repeat' (first
      | (refine And.intro ?_ ?_ <;> try conv => whnf)
      | (intro hh; first | (cases hh; done) | conv => whnf))
    all_goals try first | rfl | kernel_rfl
    all_goals try simp only [Key_eta, Share_eta, Journey_eta, Batch_eta, FieldT_eta, OpB_eta, Product_eta, Key_beq, Share_beq, Journey_beq, FieldT_beq, Product_beq, toNat0, toNat1, toNat2, toNat3, toNat4, toNat5, toNat6, toNat7, toNat8, toNat9, toNat10, toNat11, toNat12, toNat13, toNat14, toNat15, toNat16, toNat17, toNat18, toNat19, iA, iOf, atS, zK, true_and, and_true, decide_eq_true_eq, decide_eq_false_iff_not, beq_iff_eq, bne_iff_ne, beq_eq_false_iff_ne, bne_eq_false_iff_eq, Bool.not_eq_true', Bool.not_eq_false', Bool.not_eq_true, Bool.not_eq_false, Nat.succ_eq_add_one, Int.not_lt, Int.not_le, gt_iff_lt, ge_iff_le] at *
    all_goals exact ⟨by simp⟩
  · exact h.fail.elim

def T_keys_Right : TT := [(3, ⟨.int .i64, 1, 8, [.int .i64 0], some .int⟩),
  (4, ⟨.bool, 1, 1, [.bool false], some .bool⟩),
  (23, ⟨.strct [(0, 3), (1, 3), (2, 3), (3, 3)], 4, 32, [.int .i64 0, .int .i64 0, .int .i64 0, .int .i64 0], some .key⟩)]
theorem tOk_keys_Right : TOk Try.prog T_keys_Right := tOk_of (by kernel_rfl)
def sp_keys_Right : Spec := fun args hp => match args, hp with
  | [.agg k_cs], [] => (match decS .key k_cs with
    | some k => .ok (bv (right k)) []
    | none => .fail "struct")
  | _, _ => .fail "keys_Right"
abbrev k_keys_Right : List (Option RK) := [none]
def a_keys_Right : List SV → List (Nat × VB) → Anns := fun _ _ => []
set_option maxHeartbeats 20000000 in
theorem ok_keys_Right : GOk Try.prog 22 (lift k_keys_Right sp_keys_Right) := by
  refine pf_ok (T := T_keys_Right) (Γ := []) tOk_keys_Right (gOks_nil _) mixed Try.func22 (c := body Try.f22) (by kernel_rfl) (by kernel_rfl) k_keys_Right sp_keys_Right (by kernel_rfl) (by kernel_rfl) a_keys_Right ?_
  intro args hp s u hfit h
  unfold sp_keys_Right at h
  split at h
  · rename_i k_cs
    split at h
    case h_2 => exact h.fail.elim
    rename_i k h_k
    obtain rfl := decS_ok (k := .key) rfl h_k
    clear h_k
    change Key at k
    obtain ⟨rfl, rfl⟩ := h.ok
    clear h hfit
    conv => whnf
    repeat' (first
      | (refine And.intro ?_ ?_ <;> try conv => whnf)
      | (intro hh; first | (cases hh; done) | conv => whnf))
    all_goals try first | rfl | kernel_rfl
    all_goals try simp only [Key_eta, Share_eta, Journey_eta, Batch_eta, FieldT_eta, OpB_eta, Product_eta, Key_beq, Share_beq, Journey_beq, FieldT_beq, Product_beq, toNat0, toNat1, toNat2, toNat3, toNat4, toNat5, toNat6, toNat7, toNat8, toNat9, toNat10, toNat11, toNat12, toNat13, toNat14, toNat15, toNat16, toNat17, toNat18, toNat19, iA, iOf, atS, zK, true_and, and_true, decide_eq_true_eq, decide_eq_false_iff_not, beq_iff_eq, bne_iff_ne, beq_eq_false_iff_ne, bne_eq_false_iff_eq, Bool.not_eq_true', Bool.not_eq_false', Bool.not_eq_true, Bool.not_eq_false, Nat.succ_eq_add_one, Int.not_lt, Int.not_le, gt_iff_lt, ge_iff_le] at *
    all_goals (refine ⟨?_⟩; rw [Bool.eq_iff_iff]; simp_all [right] <;> omega)
  · exact h.fail.elim

def T_keys_Level : TT := [(3, ⟨.int .i64, 1, 8, [.int .i64 0], some .int⟩),
  (4, ⟨.bool, 1, 1, [.bool false], some .bool⟩),
  (23, ⟨.strct [(0, 3), (1, 3), (2, 3), (3, 3)], 4, 32, [.int .i64 0, .int .i64 0, .int .i64 0, .int .i64 0], some .key⟩)]
theorem tOk_keys_Level : TOk Try.prog T_keys_Level := tOk_of (by kernel_rfl)
def sp_keys_Level : Spec := fun args hp => match args, hp with
  | [.agg k_cs], [] => (match decS .key k_cs with
    | some k => .ok (iv (level k)) []
    | none => .fail "struct")
  | _, _ => .fail "keys_Level"
abbrev k_keys_Level : List (Option RK) := [none]
def a_keys_Level : List SV → List (Nat × VB) → Anns := fun _ _ => []
set_option maxHeartbeats 20000000 in
theorem ok_keys_Level : GOk Try.prog 23 (lift k_keys_Level sp_keys_Level) := by
  refine pf_ok (T := T_keys_Level) (Γ := (22, lift k_keys_Right sp_keys_Right) :: []) tOk_keys_Level (gOks_cons ok_keys_Right (gOks_nil _)) mixed Try.func23 (c := body Try.f23) (by kernel_rfl) (by kernel_rfl) k_keys_Level sp_keys_Level (by kernel_rfl) (by kernel_rfl) a_keys_Level ?_
  intro args hp s u hfit h
  unfold sp_keys_Level at h
  split at h
  · rename_i k_cs
    split at h
    case h_2 => exact h.fail.elim
    rename_i k h_k
    obtain rfl := decS_ok (k := .key) rfl h_k
    clear h_k
    change Key at k
    obtain ⟨rfl, rfl⟩ := h.ok
    clear h hfit
    conv => whnf
    repeat' (first
      | (refine And.intro ?_ ?_ <;> try conv => whnf)
      | (intro hh; first | (cases hh; done) | conv => whnf))
    all_goals try first | rfl | kernel_rfl
    all_goals try simp only [Key_eta, Share_eta, Journey_eta, Batch_eta, FieldT_eta, OpB_eta, Product_eta, Key_beq, Share_beq, Journey_beq, FieldT_beq, Product_beq, toNat0, toNat1, toNat2, toNat3, toNat4, toNat5, toNat6, toNat7, toNat8, toNat9, toNat10, toNat11, toNat12, toNat13, toNat14, toNat15, toNat16, toNat17, toNat18, toNat19, iA, iOf, atS, zK, true_and, and_true, decide_eq_true_eq, decide_eq_false_iff_not, beq_iff_eq, bne_iff_ne, beq_eq_false_iff_ne, bne_eq_false_iff_eq, Bool.not_eq_true', Bool.not_eq_false', Bool.not_eq_true, Bool.not_eq_false, Nat.succ_eq_add_one, Int.not_lt, Int.not_le, gt_iff_lt, ge_iff_le] at *
    all_goals (refine ⟨?_⟩; simp_all [level])
  · exact h.fail.elim

def T_keys_at : TT := [(3, ⟨.int .i64, 1, 8, [.int .i64 0], some .int⟩),
  (4, ⟨.bool, 1, 1, [.bool false], some .bool⟩),
  (23, ⟨.strct [(0, 3), (1, 3), (2, 3), (3, 3)], 4, 32, [.int .i64 0, .int .i64 0, .int .i64 0, .int .i64 0], some .key⟩)]
theorem tOk_keys_at : TOk Try.prog T_keys_at := tOk_of (by kernel_rfl)
def sp_keys_at : Spec := fun args hp => match args, hp with
  | [.agg k_cs, .val (.int .i64 level), .val (.int .i64 n)], [] => (match decS .key k_cs with
    | some k => .ok (svKey (atK k level n)) []
    | none => .fail "struct")
  | _, _ => .fail "keys_at"
abbrev k_keys_at : List (Option RK) := [none, none, none]
def a_keys_at : List SV → List (Nat × VB) → Anns := fun _ _ => []
set_option maxHeartbeats 20000000 in
theorem ok_keys_at : GOk Try.prog 60 (lift k_keys_at sp_keys_at) := by
  refine pf_ok (T := T_keys_at) (Γ := []) tOk_keys_at (gOks_nil _) mixed Try.func60 (c := body Try.f60) (by kernel_rfl) (by kernel_rfl) k_keys_at sp_keys_at (by kernel_rfl) (by kernel_rfl) a_keys_at ?_
  intro args hp s u hfit h
  unfold sp_keys_at at h
  split at h
  · rename_i k_cs level n
    split at h
    case h_2 => exact h.fail.elim
    rename_i k h_k
    obtain rfl := decS_ok (k := .key) rfl h_k
    clear h_k
    change Key at k
    obtain ⟨rfl, rfl⟩ := h.ok
    clear h hfit
    conv => whnf
    repeat' (first
      | (refine And.intro ?_ ?_ <;> try conv => whnf)
      | (intro hh; first | (cases hh; done) | conv => whnf))
    all_goals try first | rfl | kernel_rfl
    all_goals try simp only [Key_eta, Share_eta, Journey_eta, Batch_eta, FieldT_eta, OpB_eta, Product_eta, Key_beq, Share_beq, Journey_beq, FieldT_beq, Product_beq, toNat0, toNat1, toNat2, toNat3, toNat4, toNat5, toNat6, toNat7, toNat8, toNat9, toNat10, toNat11, toNat12, toNat13, toNat14, toNat15, toNat16, toNat17, toNat18, toNat19, iA, iOf, atS, zK, true_and, and_true, decide_eq_true_eq, decide_eq_false_iff_not, beq_iff_eq, bne_iff_ne, beq_eq_false_iff_ne, bne_eq_false_iff_eq, Bool.not_eq_true', Bool.not_eq_false', Bool.not_eq_true, Bool.not_eq_false, Nat.succ_eq_add_one, Int.not_lt, Int.not_le, gt_iff_lt, ge_iff_le] at *
    all_goals (refine ⟨?_⟩; simp_all [atK] <;> omega)
  · exact h.fail.elim

def T_keys_Derive : TT := [(3, ⟨.int .i64, 1, 8, [.int .i64 0], some .int⟩),
  (4, ⟨.bool, 1, 1, [.bool false], some .bool⟩),
  (23, ⟨.strct [(0, 3), (1, 3), (2, 3), (3, 3)], 4, 32, [.int .i64 0, .int .i64 0, .int .i64 0, .int .i64 0], some .key⟩),
  (24, ⟨.slice 3, 1, 24, [.slice none 0 0], none⟩),
  (27, ⟨.int .i64, 1, 8, [.int .i64 0], none⟩)]
theorem tOk_keys_Derive : TOk Try.prog T_keys_Derive := tOk_of (by kernel_rfl)
def sp_keys_Derive : Spec := fun args hp => match args, hp with
  | [.agg root_cs, .slF 0], [(0, .row o_path .int path)] => (match decS .key root_cs with
    | some root => .vc (path.length ≤ 1099511627776) (.tup [svKey (derive root path).1, iv (derive root path).2]) []
    | none => .fail "struct")
  | _, _ => .fail "keys_Derive"
abbrev k_keys_Derive : List (Option RK) := [none, some .int]
def a_keys_Derive : List SV → List (Nat × VB) → Anns := fun args hp => match args, hp with
  | [.agg root_cs, .slF 0], [(0, .row o_path .int path)] => (match decS .key root_cs with
    | some root => [(8, fun S => .inv [pOf (S.get 7)] [] fun ids vs => { cars := [.i 26 .i64, .blk (atN ids 0) [.st .key]], inv := fun ((i, (k, _), _) : Int × (Key × Unit) × Unit) => ∃ j : Nat, j ≤ path.length ∧ i = j ∧ go k (level root + j) (path.drop j) = go root (level root) path, mu := fun ((i, (k, _), _) : Int × (Key × Unit) × Unit) => path.length - i.toNat })]
    | none => [])
  | _, _ => []
set_option maxHeartbeats 20000000 in
theorem ok_keys_Derive : GOk Try.prog 16 (lift k_keys_Derive sp_keys_Derive) := by
  refine pf_ok (T := T_keys_Derive) (Γ := (23, lift k_keys_Level sp_keys_Level) :: (60, lift k_keys_at sp_keys_at) :: (22, lift k_keys_Right sp_keys_Right) :: []) tOk_keys_Derive (gOks_cons ok_keys_Level (gOks_cons ok_keys_at (gOks_cons ok_keys_Right (gOks_nil _)))) mixed Try.func16 (c := body Try.f16) (by kernel_rfl) (by kernel_rfl) k_keys_Derive sp_keys_Derive (by kernel_rfl) (by kernel_rfl) a_keys_Derive ?_
  intro args hp s u hfit h
  unfold sp_keys_Derive at h
  split at h
  · rename_i root_cs o_path path
    split at h
    case h_2 => exact h.fail.elim
    rename_i root h_root
    obtain rfl := decS_ok (k := .key) rfl h_root
    clear h_root
    change Key at root
    obtain ⟨hvc, rfl, rfl⟩ := h.vc
    clear h hfit
    change List Int at path
    conv => whnf
    repeat' (first
      | (refine And.intro ?_ ?_ <;> try conv => whnf)
      | (intro hh; first | (cases hh; done) | conv => whnf))
    all_goals try first | rfl | kernel_rfl
    all_goals try simp only [Key_eta, Share_eta, Journey_eta, Batch_eta, FieldT_eta, OpB_eta, Product_eta, Key_beq, Share_beq, Journey_beq, FieldT_beq, Product_beq, toNat0, toNat1, toNat2, toNat3, toNat4, toNat5, toNat6, toNat7, toNat8, toNat9, toNat10, toNat11, toNat12, toNat13, toNat14, toNat15, toNat16, toNat17, toNat18, toNat19, iA, iOf, atS, zK, true_and, and_true, decide_eq_true_eq, decide_eq_false_iff_not, beq_iff_eq, bne_iff_ne, beq_eq_false_iff_ne, bne_eq_false_iff_eq, Bool.not_eq_true', Bool.not_eq_false', Bool.not_eq_true, Bool.not_eq_false, Nat.succ_eq_add_one, Int.not_lt, Int.not_le, gt_iff_lt, ge_iff_le] at *
    all_goals have hr := level_range root
    all_goals first
      | exact ⟨⟨0, Nat.zero_le _, rfl, by simp⟩⟩
      | (obtain ⟨j, hj, rfl, hg⟩ := ‹∃ j : Nat, j ≤ _ ∧ _ = _ ∧ _›
         try simp (disch := omega) only [wrap64, Int.toNat_natCast] at *
         first
         | exact ⟨by omega⟩
         | (have hd := drop_getD (d := (0 : Int)) (show j < path.length by omega)
            rw [hd] at hg
            simp only [go] at hg
            first
            | (rw [if_pos (by first | exact .inl ‹_› | exact .inr ‹_›)] at hg
               exact ⟨by unfold derive; rw [if_neg (by omega), if_neg (by omega), ← hg]; simp [zkey]⟩)
            | (rw [if_neg (by simp_all)] at hg
               refine ⟨⟨j + 1, by omega, by omega, ?_⟩, by omega⟩
               rw [← hg, show level root + ((j + 1 : Nat) : Int) = level root + j + 1 by omega]))
         | (obtain rfl : j = path.length := by omega
            rw [List.drop_length] at hg
            simp only [go] at hg
            exact ⟨by unfold derive; rw [if_neg (by omega), if_neg (by omega), ← hg]; simp⟩))
      | (try simp (disch := omega) only [wrap64] at *
         refine ⟨?_⟩
         unfold derive
         (repeat' split) <;> first | omega | simp [zkey])
  · exact h.fail.elim

end Go.Proofs.Ytncdakkigkmfjaa.Sx
