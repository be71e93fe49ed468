import Derived.Test.YtncdakkigkmfjaaProg
import Derived.Test.YtncdakkigkmfjaaSxU
import Derived.IntWalk
import Derived.Test.YtncdakkigkmfjaaK2s2
/-! fareboxref09 -/
namespace Go.Proofs.Ytncdakkigkmfjaa.Sx
open Go
set_option linter.unusedVariables false
set_option linter.unusedSimpArgs false
set_option maxRecDepth 100000

def T_fareboxref09_Level : TT := [(3, ⟨.int .i64, 1, 8, [.int .i64 0], some .int⟩),
  (4, ⟨.bool, 1, 1, [.bool false], some .bool⟩),
  (23, ⟨.strct [(0, 3), (1, 3), (2, 3), (3, 3)], 4, 32, [.int .i64 0, .int .i64 0, .int .i64 0, .int .i64 0], some .key⟩),
  (104, ⟨.arr 3 3, 3, 24, [.int .i64 0, .int .i64 0, .int .i64 0], none⟩)]
theorem tOk_fareboxref09_Level : TOk Try.prog T_fareboxref09_Level := tOk_of (by kernel_rfl)
def sp_fareboxref09_Level : Spec := fun args hp => match args, hp with
  | [.agg k_cs], [] => (match decS .key k_cs with
    | some k => .ok (iv (level k)) []
    | none => .fail "struct")
  | _, _ => .fail "fareboxref09_Level"
abbrev k_fareboxref09_Level : List (Option RK) := [none]
def a_fareboxref09_Level : List SV → List (Nat × VB) → Anns := fun args hp => match args, hp with
  | [.agg k_cs], [] => (match decS .key k_cs with
    | some k => [(6, fun S => .inv [] [] fun ids vs => { cars := [.i 5 .i64, .i 3 .i64], inv := fun ((i, n, _) : Int × Int × Unit) => ∃ j : Nat, j ≤ 3 ∧ i = j ∧ n = cntK k j, mu := fun ((i, n, _) : Int × Int × Unit) => 3 - i.toNat })]
    | none => [])
  | _, _ => []
set_option maxHeartbeats 20000000 in
theorem ok_fareboxref09_Level : GOk Try.prog 24 (lift k_fareboxref09_Level sp_fareboxref09_Level) := by
  refine pf_ok (T := T_fareboxref09_Level) (Γ := (20, lift k_fareboxref09_Right sp_fareboxref09_Right) :: (61, lift k_fareboxref09_Row sp_fareboxref09_Row) :: []) tOk_fareboxref09_Level (gOks_cons ok_fareboxref09_Right (gOks_cons ok_fareboxref09_Row (gOks_nil _))) mixed Try.func24 (c := body Try.f24) (by kernel_rfl) (by kernel_rfl) k_fareboxref09_Level sp_fareboxref09_Level (by kernel_rfl) (by kernel_rfl) a_fareboxref09_Level ?_
  intro args hp s u hfit h
  unfold sp_fareboxref09_Level at h
  split at h
  · rename_i k_cs
    split at h
    case h_2 => exact h.fail.elim
    rename_i k h_k
    obtain rfl := decS_ok (k := .key) rfl h_k
    clear h_k
    change Key at k
    obtain ⟨rfl, rfl⟩ := h.ok
    clear h hfit
    conv => whnf
    repeat' (first
      | (refine And.intro ?_ ?_ <;> try conv => whnf)
      | (intro hh; first | (cases hh; done) | conv => whnf))
    all_goals try first | rfl | kernel_rfl
    all_goals try simp only [Key_eta, Share_eta, Journey_eta, Batch_eta, FieldT_eta, OpB_eta, Product_eta, Key_beq, Share_beq, Journey_beq, FieldT_beq, Product_beq, toNat0, toNat1, toNat2, toNat3, toNat4, toNat5, toNat6, toNat7, toNat8, toNat9, toNat10, toNat11, toNat12, toNat13, toNat14, toNat15, toNat16, toNat17, toNat18, toNat19, iA, iOf, atS, zK, true_and, and_true, decide_eq_true_eq, decide_eq_false_iff_not, beq_iff_eq, bne_iff_ne, beq_eq_false_iff_ne, bne_eq_false_iff_eq, Bool.not_eq_true', Bool.not_eq_false', Bool.not_eq_true, Bool.not_eq_false, Nat.succ_eq_add_one, Int.not_lt, Int.not_le, gt_iff_lt, ge_iff_le] at *
    all_goals first
      | (refine ⟨?_⟩; simp [level, *]; done)
      | exact ⟨⟨0, by omega, rfl, by simp [cntK]⟩⟩
      | (obtain ⟨j, hj, rfl, rfl⟩ := ‹∃ j : Nat, j ≤ 3 ∧ _ = _ ∧ _›
         have hc : 0 ≤ cntK k j ∧ cntK k j ≤ 3 := by unfold cntK; (repeat' split) <;> omega
         try simp (disch := omega) only [wrap64, Int.toNat_natCast] at *
         first
         | (refine Vc.mk ?_; (try simp (disch := omega) only [wrap64, List.length_cons, List.length_nil, List.length_set, setAll_length, Int.toNat_natCast]) <;> omega)
         | (obtain rfl : j = 3 := by omega
            exact ⟨cntK_level ‹_›⟩)
         | (have hj' : j = 0 ∨ j = 1 ∨ j = 2 := by omega
            refine ⟨⟨j + 1, by omega, by omega, ?_⟩, by omega⟩
            rcases hj' with rfl | rfl | rfl <;> simp at * <;> simp [cntK, *]))
  · exact h.fail.elim

def T_fareboxref09_Derive : TT := [(3, ⟨.int .i64, 1, 8, [.int .i64 0], some .int⟩),
  (4, ⟨.bool, 1, 1, [.bool false], some .bool⟩),
  (23, ⟨.strct [(0, 3), (1, 3), (2, 3), (3, 3)], 4, 32, [.int .i64 0, .int .i64 0, .int .i64 0, .int .i64 0], some .key⟩),
  (24, ⟨.slice 3, 1, 24, [.slice none 0 0], none⟩),
  (104, ⟨.arr 3 3, 3, 24, [.int .i64 0, .int .i64 0, .int .i64 0], none⟩)]
theorem tOk_fareboxref09_Derive : TOk Try.prog T_fareboxref09_Derive := tOk_of (by kernel_rfl)
def sp_fareboxref09_Derive : Spec := fun args hp => match args, hp with
  | [.agg root_cs, .slF 0], [(0, .row o_path .int path)] => (match decS .key root_cs with
    | some root => .vc (path.length ≤ 1099511627776) (.tup [svKey (refDerive root path).1, iv (refDerive root path).2]) []
    | none => .fail "struct")
  | _, _ => .fail "fareboxref09_Derive"
abbrev k_fareboxref09_Derive : List (Option RK) := [none, some .int]
def a_fareboxref09_Derive : List SV → List (Nat × VB) → Anns := fun args hp => match args, hp with
  | [.agg root_cs, .slF 0], [(0, .row o_path .int path)] => (match decS .key root_cs with
    | some root => [(8, fun S => .inv [pOf (S.get 7)] [] fun ids vs => { cars := [.i 8 .i64, .row (atN ids 0) true .int], inv := fun ((i, x, _) : Int × List Int × Unit) => ∃ j : Nat, j ≤ path.length ∧ i = j ∧ x = setAll [root.op, root.ty, root.card] (level root) (path.take j), mu := fun ((i, x, _) : Int × List Int × Unit) => path.length - i.toNat })]
    | none => [])
  | _, _ => []
set_option maxHeartbeats 20000000 in
theorem ok_fareboxref09_Derive : GOk Try.prog 17 (lift k_fareboxref09_Derive sp_fareboxref09_Derive) := by
  refine pf_ok (T := T_fareboxref09_Derive) (Γ := (24, lift k_fareboxref09_Level sp_fareboxref09_Level) :: (61, lift k_fareboxref09_Row sp_fareboxref09_Row) :: []) tOk_fareboxref09_Derive (gOks_cons ok_fareboxref09_Level (gOks_cons ok_fareboxref09_Row (gOks_nil _))) mixed Try.func17 (c := body Try.f17) (by kernel_rfl) (by kernel_rfl) k_fareboxref09_Derive sp_fareboxref09_Derive (by kernel_rfl) (by kernel_rfl) a_fareboxref09_Derive ?_
  intro args hp s u hfit h
  unfold sp_fareboxref09_Derive at h
  split at h
  · rename_i root_cs o_path path
    split at h
    case h_2 => exact h.fail.elim
    rename_i root h_root
    obtain rfl := decS_ok (k := .key) rfl h_root
    clear h_root
    change Key at root
    obtain ⟨hvc, rfl, rfl⟩ := h.vc
    clear h hfit
    change List Int at path
    conv => whnf
    repeat' (first
      | (refine And.intro ?_ ?_ <;> try conv => whnf)
      | (intro hh; first | (cases hh; done) | conv => whnf))
    all_goals try first | rfl | kernel_rfl
    all_goals try simp only [Key_eta, Share_eta, Journey_eta, Batch_eta, FieldT_eta, OpB_eta, Product_eta, Key_beq, Share_beq, Journey_beq, FieldT_beq, Product_beq, toNat0, toNat1, toNat2, toNat3, toNat4, toNat5, toNat6, toNat7, toNat8, toNat9, toNat10, toNat11, toNat12, toNat13, toNat14, toNat15, toNat16, toNat17, toNat18, toNat19, iA, iOf, atS, zK, true_and, and_true, decide_eq_true_eq, decide_eq_false_iff_not, beq_iff_eq, bne_iff_ne, beq_eq_false_iff_ne, bne_eq_false_iff_eq, Bool.not_eq_true', Bool.not_eq_false', Bool.not_eq_true, Bool.not_eq_false, Nat.succ_eq_add_one, Int.not_lt, Int.not_le, gt_iff_lt, ge_iff_le] at *
    all_goals have hr := level_range root
    all_goals first
      | exact ⟨⟨0, Nat.zero_le _, rfl, by simp [setAll]⟩⟩
      | (obtain ⟨j, hj, rfl, rfl⟩ := ‹∃ j : Nat, j ≤ path.length ∧ _ = _ ∧ _›
         try simp (disch := omega) only [wrap64, Int.toNat_natCast] at *
         first
         | (refine Vc.mk ?_; (try simp (disch := omega) only [wrap64, List.length_cons, List.length_nil, List.length_set, setAll_length, Int.toNat_natCast]) <;> omega)
         | (refine ⟨⟨j + 1, by omega, by omega, ?_⟩, by omega⟩
            rw [take_getD (d := (0 : Int)) (by omega), setAll_snoc, List.length_take, Nat.min_eq_left hj])
         | (obtain rfl : j = path.length := by omega
            rw [List.take_length] at *
            have hr2 := level_range (rowKey (setAll [root.op, root.ty, root.card] (level root) path) root.ver)
            refine ⟨?_⟩
            unfold refDerive
            rw [if_neg (by omega), if_neg (by omega)]
            unfold rowKey at *
            first
            | (rw [if_pos ‹_›]; simp [zkey]; done)
            | (rw [if_neg (fun hne => hne ‹_›)]; exact ⟨rfl, rfl, rfl, rfl, rfl⟩)))
      | (try simp (disch := omega) only [wrap64] at *
         refine ⟨?_⟩
         unfold refDerive
         (repeat' split) <;> first | omega | simp [zkey])
  · exact h.fail.elim

def T_fareboxref09_Parent : TT := [(3, ⟨.int .i64, 1, 8, [.int .i64 0], some .int⟩),
  (4, ⟨.bool, 1, 1, [.bool false], some .bool⟩),
  (23, ⟨.strct [(0, 3), (1, 3), (2, 3), (3, 3)], 4, 32, [.int .i64 0, .int .i64 0, .int .i64 0, .int .i64 0], some .key⟩),
  (104, ⟨.arr 3 3, 3, 24, [.int .i64 0, .int .i64 0, .int .i64 0], none⟩)]
theorem tOk_fareboxref09_Parent : TOk Try.prog T_fareboxref09_Parent := tOk_of (by kernel_rfl)
def sp_fareboxref09_Parent : Spec := fun args hp => match args, hp with
  | [.agg k_cs], [] => (match decS .key k_cs with
    | some k => .ok (.tup [svKey (parent k).1, iv (parent k).2]) []
    | none => .fail "struct")
  | _, _ => .fail "fareboxref09_Parent"
abbrev k_fareboxref09_Parent : List (Option RK) := [none]
def a_fareboxref09_Parent : List SV → List (Nat × VB) → Anns := fun _ _ => []
set_option maxHeartbeats 20000000 in
theorem ok_fareboxref09_Parent : GOk Try.prog 19 (lift k_fareboxref09_Parent sp_fareboxref09_Parent) := by
  refine pf_ok (T := T_fareboxref09_Parent) (Γ := (24, lift k_fareboxref09_Level sp_fareboxref09_Level) :: (61, lift k_fareboxref09_Row sp_fareboxref09_Row) :: []) tOk_fareboxref09_Parent (gOks_cons ok_fareboxref09_Level (gOks_cons ok_fareboxref09_Row (gOks_nil _))) mixed Try.func19 (c := body Try.f19) (by kernel_rfl) (by kernel_rfl) k_fareboxref09_Parent sp_fareboxref09_Parent (by kernel_rfl) (by kernel_rfl) a_fareboxref09_Parent ?_
  intro args hp s u hfit h
  unfold sp_fareboxref09_Parent at h
  split at h
  · rename_i k_cs
    split at h
    case h_2 => exact h.fail.elim
    rename_i k h_k
    obtain rfl := decS_ok (k := .key) rfl h_k
    clear h_k
    change Key at k
    obtain ⟨rfl, rfl⟩ := h.ok
    clear h hfit
    conv => whnf
    repeat' (first
      | (refine And.intro ?_ ?_ <;> try conv => whnf)
      | (intro hh; first | (cases hh; done) | conv => whnf))
    all_goals try first | rfl | kernel_rfl
    all_goals try simp only [Key_eta, Share_eta, Journey_eta, Batch_eta, FieldT_eta, OpB_eta, Product_eta, Key_beq, Share_beq, Journey_beq, FieldT_beq, Product_beq, toNat0, toNat1, toNat2, toNat3, toNat4, toNat5, toNat6, toNat7, toNat8, toNat9, toNat10, toNat11, toNat12, toNat13, toNat14, toNat15, toNat16, toNat17, toNat18, toNat19, iA, iOf, atS, zK, true_and, and_true, decide_eq_true_eq, decide_eq_false_iff_not, beq_iff_eq, bne_iff_ne, beq_eq_false_iff_ne, bne_eq_false_iff_eq, Bool.not_eq_true', Bool.not_eq_false', Bool.not_eq_true, Bool.not_eq_false, Nat.succ_eq_add_one, Int.not_lt, Int.not_le, gt_iff_lt, ge_iff_le] at *
    all_goals have hr := level_range k
    all_goals try simp (disch := omega) only [wrap64, Int.toNat_natCast] at *
    all_goals first
      | (refine Vc.mk ?_; (try simp (disch := omega) only [wrap64, List.length_cons, List.length_nil, List.length_set, setAll_length, Int.toNat_natCast]) <;> omega)
      | (have hj : level k = 1 ∨ level k = 2 ∨ level k = 3 := by omega
         have hp : parent k = (atK k (level k - 1) 0, 0) := by unfold parent; rw [if_neg (by omega), if_neg (by omega)]
         refine ⟨?_⟩
         rw [hp]
         rcases hj with hj | hj | hj <;> simp [hj, atK])
      | (refine ⟨?_⟩
         unfold parent
         (repeat' split) <;> first | omega | (simp [zkey]; done))
  · exact h.fail.elim

def T_fareboxref09_From : TT := [(3, ⟨.int .i64, 1, 8, [.int .i64 0], some .int⟩),
  (4, ⟨.bool, 1, 1, [.bool false], some .bool⟩),
  (23, ⟨.strct [(0, 3), (1, 3), (2, 3), (3, 3)], 4, 32, [.int .i64 0, .int .i64 0, .int .i64 0, .int .i64 0], some .key⟩),
  (104, ⟨.arr 3 3, 3, 24, [.int .i64 0, .int .i64 0, .int .i64 0], none⟩)]
theorem tOk_fareboxref09_From : TOk Try.prog T_fareboxref09_From := tOk_of (by kernel_rfl)
def sp_fareboxref09_From : Spec := fun args hp => match args, hp with
  | [.agg k_cs, .agg a_cs], [] => (match decS .key k_cs with
    | some k => (match decS .key a_cs with
    | some a => .ok (bv (refFrom k a)) []
    | none => .fail "struct")
    | none => .fail "struct")
  | _, _ => .fail "fareboxref09_From"
abbrev k_fareboxref09_From : List (Option RK) := [none, none]
def a_fareboxref09_From : List SV → List (Nat × VB) → Anns := fun args hp => match args, hp with
  | [.agg k_cs, .agg a_cs], [] => (match decS .key k_cs with
    | some k => (match decS .key a_cs with
    | some a => [(7, fun S => .inv [] [] fun ids vs => { cars := [.i 8 .i64], inv := fun ((i, _) : Int × Unit) => ∃ j : Nat, j ≤ 3 ∧ i = j ∧ j ≤ level a ∧ (0 < j → k.op = a.op) ∧ (1 < j → k.ty = a.ty) ∧ (2 < j → k.card = a.card), mu := fun ((i, _) : Int × Unit) => 3 - i.toNat })]
    | none => [])
    | none => [])
  | _, _ => []
set_option maxHeartbeats 20000000 in
theorem ok_fareboxref09_From : GOk Try.prog 21 (lift k_fareboxref09_From sp_fareboxref09_From) := by
  refine pf_ok (T := T_fareboxref09_From) (Γ := (24, lift k_fareboxref09_Level sp_fareboxref09_Level) :: (61, lift k_fareboxref09_Row sp_fareboxref09_Row) :: []) tOk_fareboxref09_From (gOks_cons ok_fareboxref09_Level (gOks_cons ok_fareboxref09_Row (gOks_nil _))) mixed Try.func21 (c := body Try.f21) (by kernel_rfl) (by kernel_rfl) k_fareboxref09_From sp_fareboxref09_From (by kernel_rfl) (by kernel_rfl) a_fareboxref09_From ?_
  intro args hp s u hfit h
  unfold sp_fareboxref09_From at h
  split at h
  · rename_i k_cs a_cs
    split at h
    case h_2 => exact h.fail.elim
    rename_i k h_k
    obtain rfl := decS_ok (k := .key) rfl h_k
    clear h_k
    change Key at k
    split at h
    case h_2 => exact h.fail.elim
    rename_i a h_a
    obtain rfl := decS_ok (k := .key) rfl h_a
    clear h_a
    change Key at a
    obtain ⟨rfl, rfl⟩ := h.ok
    clear h hfit
    conv => whnf
    repeat' (first
      | (refine And.intro ?_ ?_ <;> try conv => whnf)
      | (intro hh; first | (cases hh; done) | conv => whnf))
    all_goals try first | rfl | kernel_rfl
    all_goals try simp only [Key_eta, Share_eta, Journey_eta, Batch_eta, FieldT_eta, OpB_eta, Product_eta, Key_beq, Share_beq, Journey_beq, FieldT_beq, Product_beq, toNat0, toNat1, toNat2, toNat3, toNat4, toNat5, toNat6, toNat7, toNat8, toNat9, toNat10, toNat11, toNat12, toNat13, toNat14, toNat15, toNat16, toNat17, toNat18, toNat19, iA, iOf, atS, zK, true_and, and_true, decide_eq_true_eq, decide_eq_false_iff_not, beq_iff_eq, bne_iff_ne, beq_eq_false_iff_ne, bne_eq_false_iff_eq, Bool.not_eq_true', Bool.not_eq_false', Bool.not_eq_true, Bool.not_eq_false, Nat.succ_eq_add_one, Int.not_lt, Int.not_le, gt_iff_lt, ge_iff_le] at *
    all_goals have hr := level_range a
    all_goals first
      | (refine ⟨?_⟩; simp [refFrom, *]; done)
      | exact ⟨⟨0, by omega, rfl, by omega, by simp⟩⟩
      | (obtain ⟨j, hj, rfl, hl, h0, h1, h2⟩ := ‹∃ j : Nat, j ≤ 3 ∧ _ = _ ∧ _›
         try simp (disch := omega) only [wrap64, Int.toNat_natCast] at *
         first
         | (refine Vc.mk ?_; (try simp (disch := omega) only [wrap64, List.length_cons, List.length_nil, List.length_set, setAll_length, Int.toNat_natCast]) <;> omega)
         | (have hj' : j = 0 ∨ j = 1 ∨ j = 2 ∨ j = 3 := by omega
            rcases hj' with rfl | rfl | rfl | rfl
            all_goals
              (try simp at *) <;>
              first
              | (exfalso; omega)
              | (refine ⟨⟨1, ?_, ?_, ?_⟩, ?_⟩ <;> simp <;> omega)
              | (refine ⟨⟨2, ?_, ?_, ?_⟩, ?_⟩ <;> simp <;> omega)
              | (refine ⟨⟨3, ?_, ?_, ?_⟩, ?_⟩ <;> simp <;> omega)
              | (refine ⟨?_⟩; simp [refFrom]; omega)))
  · exact h.fail.elim

end Go.Proofs.Ytncdakkigkmfjaa.Sx
