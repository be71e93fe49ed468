import Derived.Test.YtgajbggdamlhlaaProg
import Derived.Test.YtgajbggdamlhlaaSxU
import Derived.IntWalk
import Derived.Test.YtgajbggdamlhlaaM4r
/-! fareboxlaw05, laws of Split -/
namespace Go.Proofs.Ytgajbggdamlhlaa.Sx
open Go
set_option linter.unusedVariables false
set_option linter.unusedSimpArgs false
set_option maxRecDepth 100000

def T_fareboxlaw05_MoneyExact : TT := [(3, ⟨.int .i64, 1, 8, [.int .i64 0], some .int⟩),
  (4, ⟨.bool, 1, 1, [.bool false], some .bool⟩),
  (22, ⟨.slice 3, 1, 24, [.slice none 0 0], none⟩),
  (24, ⟨.int .i64, 1, 8, [.int .i64 0], none⟩)]
theorem tOk_fareboxlaw05_MoneyExact : TOk Try.prog T_fareboxlaw05_MoneyExact := tOk_of (by kernel_rfl)
def sp_fareboxlaw05_MoneyExact : Spec := fun args hp => match args, hp with
  | [.val (.int .i64 a), .slF 0], [(0, .row o_ws .int ws)] => .vc ((-9223372036854775808 ≤ a ∧ a ≤ 9223372036854775807) ∧ ws.length ≤ 1048576 ∧ ∀ n ∈ ws, -9223372036854775808 ≤ n ∧ n ≤ 9223372036854775807) (bv true) []
  | _, _ => .fail "fareboxlaw05_MoneyExact"
abbrev k_fareboxlaw05_MoneyExact : List (Option RK) := [none, some .int]
def a_fareboxlaw05_MoneyExact : List SV → List (Nat × VB) → Anns := fun args hp => match args, hp with
  | [.val (.int .i64 a), .slF 0], [(0, .row o_ws .int ws)] => [(8, fun S => .inv [] [] [] fun ids vs rs => { cars := [.i 9 .i64, .i 7 .i64], inv := fun ((i, w, _) : Int × Int × Unit) => IR1 ws i w, mu := fun ((i, w, _) : Int × Int × Unit) => ws.length - i.toNat }),
    (14, fun S => .inv [] [] [] fun ids vs rs => { cars := [.i 10 .i64, .i 8 .i64], inv := fun ((i, sum, _) : Int × Int × Unit) => IMe a ws i sum, mu := fun ((i, sum, _) : Int × Int × Unit) => (splitL a ws).length - i.toNat }),
    (21, fun S => .inv [] [] [] fun ids vs rs => { cars := [.i 12 .i64], inv := fun ((k, _) : Int × Unit) => 0 ≤ k ∧ k ≤ (splitL a ws).length, mu := fun ((k, _) : Int × Unit) => (splitL a ws).length - k.toNat })]
  | _, _ => []
set_option maxHeartbeats 20000000 in
theorem ok_fareboxlaw05_MoneyExact : GOk Try.prog 3 (lift k_fareboxlaw05_MoneyExact sp_fareboxlaw05_MoneyExact) := by
  refine pf_ok (T := T_fareboxlaw05_MoneyExact) (Γ := (15, lift k_fareboxlaw05_awake sp_fareboxlaw05_awake) :: (16, lift k_money_Split sp_money_Split) :: []) tOk_fareboxlaw05_MoneyExact (gOks_cons ok_fareboxlaw05_awake (gOks_cons ok_money_Split (gOks_nil _))) mixed Try.func3 (c := body Try.f3) (by kernel_rfl) (by kernel_rfl) k_fareboxlaw05_MoneyExact sp_fareboxlaw05_MoneyExact (by kernel_rfl) (by kernel_rfl) a_fareboxlaw05_MoneyExact ?_
  intro args hp s u hfit h
  unfold sp_fareboxlaw05_MoneyExact at h
  split at h
  · rename_i a o_ws ws
    obtain ⟨hvc, rfl, rfl⟩ := h.vc
    clear h hfit
    change List Int at ws
    conv => whnf
    repeat' (first
      | (refine And.intro ?_ ?_ <;> try conv => whnf)
      | (intro hh; first | (cases hh; done) | conv => whnf))
    all_goals try first | rfl | kernel_rfl
    all_goals try simp only [decide_eq_true_eq, decide_eq_false_iff_not] at *
    all_goals try simp only [Key_eta, Share_eta, Journey_eta, Batch_eta, FieldT_eta, OpB_eta, Product_eta, Key_beq, Share_beq, Journey_beq, FieldT_beq, Product_beq, toNat0, toNat1, toNat2, toNat3, toNat4, toNat5, toNat6, toNat7, toNat8, toNat9, toNat10, toNat11, toNat12, toNat13, toNat14, toNat15, toNat16, toNat17, toNat18, toNat19, iA, iOf, atS, rwA, castK, zK, true_and, and_true, decide_eq_true_eq, decide_eq_false_iff_not, beq_iff_eq, bne_iff_ne, beq_eq_false_iff_ne, bne_eq_false_iff_eq, Bool.not_eq_true', Bool.not_eq_false', Bool.not_eq_true, Bool.not_eq_false, Nat.succ_eq_add_one, Int.not_lt, Int.not_le, gt_iff_lt, ge_iff_le, show bytesS T_fareboxlaw05_MoneyExact 22 = 8 from rfl] at *
    all_goals obtain ⟨hA, hL, hR⟩ := hvc
    all_goals try exact Vc.mk ⟨by omega, hR⟩
    all_goals try exact Res.mk (split_bad ‹_›)
    all_goals have hr := right_of_E (a := a) (ws := ws) ‹_›
    all_goals have hG := goodM hr
    all_goals have hl := splitL_len hr
    all_goals try exact ⟨ir1_zero⟩
    all_goals try exact ⟨⟨0, Nat.zero_le _, rfl, rfl⟩⟩
    all_goals try (
      have e := ir1_end ‹IR1 _ _ _›
      specialize e (by assumption)
      obtain ⟨rfl, hW⟩ := e)
    all_goals try (
      have e := ir1_next ‹IR1 _ _ _› hG
      specialize e (by assumption)
      obtain ⟨f1, f2, f3⟩ := e)
    all_goals try exact ⟨f2, f3⟩
    all_goals try (
      have e := ime_at hr ‹IMe _ _ _ _›
      specialize e (by assumption)
      obtain ⟨⟨g1, g2⟩, g3, g4, ⟨g5, g6⟩, g7, g8⟩ := e)
    all_goals try exact ⟨g7, g8⟩
    all_goals try (refine Vc.mk ?_; omega)
    all_goals try (exfalso; omega)
    all_goals try exact absurd (g4 ‹_›) ‹_›
    all_goals try exact ⟨by omega⟩
    all_goals try exact ⟨by rw [wrap64 (by omega) (by omega)]; omega, by rw [wrap64 (by omega) (by omega)]; omega⟩
    all_goals try exact Res.mk (ime_end hr ‹IMe _ _ _ _› ‹_›)
    all_goals (
      exfalso
      have h := ‹ws.getD _ 0 < ws.getD _ 0›
      have e := ime_mono hr g1 g2 (by omega) (by omega) h
      omega)
  · exact h.fail.elim

def T_fareboxlaw05_MoneyScales : TT := [(3, ⟨.int .i64, 1, 8, [.int .i64 0], some .int⟩),
  (4, ⟨.bool, 1, 1, [.bool false], some .bool⟩),
  (22, ⟨.slice 3, 1, 24, [.slice none 0 0], none⟩),
  (24, ⟨.int .i64, 1, 8, [.int .i64 0], none⟩)]
theorem tOk_fareboxlaw05_MoneyScales : TOk Try.prog T_fareboxlaw05_MoneyScales := tOk_of (by kernel_rfl)
def sp_fareboxlaw05_MoneyScales : Spec := fun args hp => match args, hp with
  | [.val (.int .i64 a), .slF 0, .val (.int .i64 b)], [(0, .row o_ws .int ws)] => .vc ((-9223372036854775808 ≤ a ∧ a ≤ 9223372036854775807) ∧ (-9223372036854775808 ≤ b ∧ b ≤ 9223372036854775807) ∧ ws.length ≤ 1048576 ∧ ∀ n ∈ ws, -9223372036854775808 ≤ n ∧ n ≤ 9223372036854775807) (bv true) []
  | _, _ => .fail "fareboxlaw05_MoneyScales"
abbrev k_fareboxlaw05_MoneyScales : List (Option RK) := [none, some .int, none]
def a_fareboxlaw05_MoneyScales : List SV → List (Nat × VB) → Anns := fun args hp => match args, hp with
  | [.val (.int .i64 a), .slF 0, .val (.int .i64 b)], [(0, .row o_ws .int ws)] => [(6, fun S => .inv [] [] [] fun ids vs rs => { cars := [.i 9 .i64, .r 8 true .int], inv := fun ((i, more, _) : Int × List Int × Unit) => IMs (kS b) ws i more, mu := fun ((i, more, _) : Int × List Int × Unit) => ws.length - i.toNat }),
    (16, fun S => .inv [] [] [] fun ids vs rs => { cars := [.i 14 .i64], inv := fun ((i, _) : Int × Unit) => 0 ≤ i ∧ i ≤ (splitL a ws).length, mu := fun ((i, _) : Int × Unit) => (splitL a ws).length - i.toNat })]
  | _, _ => []
set_option maxHeartbeats 20000000 in
theorem ok_fareboxlaw05_MoneyScales : GOk Try.prog 4 (lift k_fareboxlaw05_MoneyScales sp_fareboxlaw05_MoneyScales) := by
  refine pf_ok (T := T_fareboxlaw05_MoneyScales) (Γ := (15, lift k_fareboxlaw05_awake sp_fareboxlaw05_awake) :: (16, lift k_money_Split sp_money_Split) :: []) tOk_fareboxlaw05_MoneyScales (gOks_cons ok_fareboxlaw05_awake (gOks_cons ok_money_Split (gOks_nil _))) mixed Try.func4 (c := body Try.f4) (by kernel_rfl) (by kernel_rfl) k_fareboxlaw05_MoneyScales sp_fareboxlaw05_MoneyScales (by kernel_rfl) (by kernel_rfl) a_fareboxlaw05_MoneyScales ?_
  intro args hp s u hfit h
  unfold sp_fareboxlaw05_MoneyScales at h
  split at h
  · rename_i a b o_ws ws
    obtain ⟨hvc, rfl, rfl⟩ := h.vc
    clear h hfit
    change List Int at ws
    conv => whnf
    repeat' (first
      | (refine And.intro ?_ ?_ <;> try conv => whnf)
      | (intro hh; first | (cases hh; done) | conv => whnf))
    all_goals try first | rfl | kernel_rfl
    all_goals try simp only [decide_eq_true_eq, decide_eq_false_iff_not] at *
    all_goals try simp only [Key_eta, Share_eta, Journey_eta, Batch_eta, FieldT_eta, OpB_eta, Product_eta, Key_beq, Share_beq, Journey_beq, FieldT_beq, Product_beq, toNat0, toNat1, toNat2, toNat3, toNat4, toNat5, toNat6, toNat7, toNat8, toNat9, toNat10, toNat11, toNat12, toNat13, toNat14, toNat15, toNat16, toNat17, toNat18, toNat19, iA, iOf, atS, rwA, castK, zK, true_and, and_true, decide_eq_true_eq, decide_eq_false_iff_not, beq_iff_eq, bne_iff_ne, beq_eq_false_iff_ne, bne_eq_false_iff_eq, Bool.not_eq_true', Bool.not_eq_false', Bool.not_eq_true, Bool.not_eq_false, Nat.succ_eq_add_one, Int.not_lt, Int.not_le, gt_iff_lt, ge_iff_le, show bytesS T_fareboxlaw05_MoneyScales 22 = 8 from rfl] at *
    all_goals obtain ⟨hA, hB, hL, hR⟩ := hvc
    all_goals have hk := kS_in b
    all_goals try exact Vc.mk (by decide)
    all_goals try exact Vc.mk ⟨by omega, hR⟩
    all_goals try exact Res.mk trivial
    all_goals try exact ⟨⟨0, Nat.zero_le _, rfl, fun x hx => by simp at hx, rfl⟩⟩
    all_goals try (
      have e := ims_more hk hL ‹IMs _ _ _ _›
      specialize e (by assumption)
      obtain ⟨f1, f2, f3, f4⟩ := e)
    all_goals try (refine Vc.mk ?_; first | omega | (simp only [List.length_cons, List.length_nil]; omega))
    all_goals try exact ⟨f3 ‹_› ‹_›, f4⟩
    all_goals have e := ims_end hk ‹IMs _ _ _ _› ‹_›
    all_goals obtain ⟨rfl, m1, m2, m3⟩ := e
    all_goals try exact Vc.mk ⟨by omega, m3⟩
    all_goals have sc := split_scale (a := a) (show 0 < kS b by omega) hk.2 m1
    all_goals have hle := splitL_le (a := a) (ws := ws)
    all_goals try simp only [sc.1, sc.2] at *
    all_goals try (refine Vc.mk ?_; omega)
    all_goals try exact ⟨by omega⟩
    all_goals try exact ⟨by rw [wrap64 (by omega) (by omega)]; omega, by rw [wrap64 (by omega) (by omega)]; omega⟩
    all_goals (
      exfalso
      have h := ‹_ ≠ _›
      exact h rfl)
  · exact h.fail.elim

def T_fareboxlaw05_MoneyTurned : TT := [(3, ⟨.int .i64, 1, 8, [.int .i64 0], some .int⟩),
  (4, ⟨.bool, 1, 1, [.bool false], some .bool⟩),
  (22, ⟨.slice 3, 1, 24, [.slice none 0 0], none⟩),
  (24, ⟨.int .i64, 1, 8, [.int .i64 0], none⟩)]
theorem tOk_fareboxlaw05_MoneyTurned : TOk Try.prog T_fareboxlaw05_MoneyTurned := tOk_of (by kernel_rfl)
def sp_fareboxlaw05_MoneyTurned : Spec := fun args hp => match args, hp with
  | [.val (.int .i64 a), .slF 0], [(0, .row o_ws .int ws)] => .vc ((-9223372036854775808 ≤ a ∧ a ≤ 9223372036854775807) ∧ ws.length ≤ 1048576 ∧ ∀ n ∈ ws, -9223372036854775808 ≤ n ∧ n ≤ 9223372036854775807) (bv true) []
  | _, _ => .fail "fareboxlaw05_MoneyTurned"
abbrev k_fareboxlaw05_MoneyTurned : List (Option RK) := [none, some .int]
def a_fareboxlaw05_MoneyTurned : List SV → List (Nat × VB) → Anns := fun args hp => match args, hp with
  | [.val (.int .i64 a), .slF 0], [(0, .row o_ws .int ws)] => [(5, fun S => .inv [] [] [] fun ids vs rs => { cars := [.i 6 .i64, .r 5 true .int], inv := fun ((i, back, _) : Int × List Int × Unit) => IMt ws i back, mu := fun ((i, back, _) : Int × List Int × Unit) => (i + 1).toNat }),
    (14, fun S => .inv [] [] [] fun ids vs rs => { cars := [.i 12 .i64, .i 11 .i64], inv := fun ((i, sum, _) : Int × Int × Unit) => IMu a ws i sum, mu := fun ((i, sum, _) : Int × Int × Unit) => (splitL a ws).length - i.toNat })]
  | _, _ => []
set_option maxHeartbeats 20000000 in
theorem ok_fareboxlaw05_MoneyTurned : GOk Try.prog 5 (lift k_fareboxlaw05_MoneyTurned sp_fareboxlaw05_MoneyTurned) := by
  refine pf_ok (T := T_fareboxlaw05_MoneyTurned) (Γ := (15, lift k_fareboxlaw05_awake sp_fareboxlaw05_awake) :: (16, lift k_money_Split sp_money_Split) :: []) tOk_fareboxlaw05_MoneyTurned (gOks_cons ok_fareboxlaw05_awake (gOks_cons ok_money_Split (gOks_nil _))) mixed Try.func5 (c := body Try.f5) (by kernel_rfl) (by kernel_rfl) k_fareboxlaw05_MoneyTurned sp_fareboxlaw05_MoneyTurned (by kernel_rfl) (by kernel_rfl) a_fareboxlaw05_MoneyTurned ?_
  intro args hp s u hfit h
  unfold sp_fareboxlaw05_MoneyTurned at h
  split at h
  · rename_i a o_ws ws
    obtain ⟨hvc, rfl, rfl⟩ := h.vc
    clear h hfit
    change List Int at ws
    conv => whnf
    repeat' (first
      | (refine And.intro ?_ ?_ <;> try conv => whnf)
      | (intro hh; first | (cases hh; done) | conv => whnf))
    all_goals try first | rfl | kernel_rfl
    all_goals try simp only [decide_eq_true_eq, decide_eq_false_iff_not] at *
    all_goals try simp only [Key_eta, Share_eta, Journey_eta, Batch_eta, FieldT_eta, OpB_eta, Product_eta, Key_beq, Share_beq, Journey_beq, FieldT_beq, Product_beq, toNat0, toNat1, toNat2, toNat3, toNat4, toNat5, toNat6, toNat7, toNat8, toNat9, toNat10, toNat11, toNat12, toNat13, toNat14, toNat15, toNat16, toNat17, toNat18, toNat19, iA, iOf, atS, rwA, castK, zK, true_and, and_true, decide_eq_true_eq, decide_eq_false_iff_not, beq_iff_eq, bne_iff_ne, beq_eq_false_iff_ne, bne_eq_false_iff_eq, Bool.not_eq_true', Bool.not_eq_false', Bool.not_eq_true, Bool.not_eq_false, Nat.succ_eq_add_one, Int.not_lt, Int.not_le, gt_iff_lt, ge_iff_le, show bytesS T_fareboxlaw05_MoneyTurned 22 = 8 from rfl] at *
    all_goals obtain ⟨hA, hL, hR⟩ := hvc
    all_goals try exact Vc.mk ⟨by omega, hR⟩
    all_goals try exact ⟨imt_zero hL⟩
    all_goals try exact ⟨⟨0, Nat.zero_le _, rfl, rfl⟩⟩
    all_goals try (
      have e := imt_more hL ‹IMt _ _ _›
      specialize e (by assumption)
      obtain ⟨f1, f2, f3, f4⟩ := e)
    all_goals try (refine Vc.mk ?_; first | omega | (simp only [List.length_cons, List.length_nil]; omega))
    all_goals try exact ⟨f3, f4⟩
    all_goals have e := imt_end ‹IMt _ _ _› (by omega)
    all_goals subst e
    all_goals try exact Vc.mk ⟨by rw [List.length_reverse]; omega, fun n hn => hR n (List.mem_reverse.1 hn)⟩
    all_goals have st := split_turn (a := a) (ws := ws)
    all_goals try exact absurd st.1.symm ‹_ ≠ _›
    all_goals try (exfalso; omega)
    all_goals try exact Res.mk (imu_end ‹IMu _ _ _ _› (by omega))
    all_goals have e := imu_more ‹IMu _ _ _ _› ‹_›
    all_goals obtain ⟨⟨g1, g2, g3⟩, ⟨g4, g5⟩, g6, g7⟩ := e
    all_goals try (refine Vc.mk ?_; omega)
    all_goals try exact ⟨g6, g7⟩
    all_goals (exfalso; omega)
  · exact h.fail.elim

def T_fareboxlaw05_MoneyMore : TT := [(3, ⟨.int .i64, 1, 8, [.int .i64 0], some .int⟩),
  (4, ⟨.bool, 1, 1, [.bool false], some .bool⟩),
  (22, ⟨.slice 3, 1, 24, [.slice none 0 0], none⟩),
  (24, ⟨.int .i64, 1, 8, [.int .i64 0], none⟩)]
theorem tOk_fareboxlaw05_MoneyMore : TOk Try.prog T_fareboxlaw05_MoneyMore := tOk_of (by kernel_rfl)
def sp_fareboxlaw05_MoneyMore : Spec := fun args hp => match args, hp with
  | [.val (.int .i64 a), .val (.int .i64 b), .slF 0], [(0, .row o_ws .int ws)] => .vc ((-9223372036854775808 ≤ a ∧ a ≤ 9223372036854775807) ∧ (-9223372036854775808 ≤ b ∧ b ≤ 9223372036854775807) ∧ ws.length ≤ 1048576 ∧ ∀ n ∈ ws, -9223372036854775808 ≤ n ∧ n ≤ 9223372036854775807) (bv true) []
  | _, _ => .fail "fareboxlaw05_MoneyMore"
abbrev k_fareboxlaw05_MoneyMore : List (Option RK) := [none, none, some .int]
def a_fareboxlaw05_MoneyMore : List SV → List (Nat × VB) → Anns := fun args hp => match args, hp with
  | [.val (.int .i64 a), .val (.int .i64 b), .slF 0], [(0, .row o_ws .int ws)] => [(8, fun S => .inv [] [] [] fun ids vs rs => { cars := [.i 11 .i64], inv := fun ((i, _) : Int × Unit) => IMo a ws i, mu := fun ((i, _) : Int × Unit) => (splitL a ws).length - i.toNat })]
  | _, _ => []
set_option maxHeartbeats 20000000 in
theorem ok_fareboxlaw05_MoneyMore : GOk Try.prog 6 (lift k_fareboxlaw05_MoneyMore sp_fareboxlaw05_MoneyMore) := by
  refine pf_ok (T := T_fareboxlaw05_MoneyMore) (Γ := (15, lift k_fareboxlaw05_awake sp_fareboxlaw05_awake) :: (16, lift k_money_Split sp_money_Split) :: []) tOk_fareboxlaw05_MoneyMore (gOks_cons ok_fareboxlaw05_awake (gOks_cons ok_money_Split (gOks_nil _))) mixed Try.func6 (c := body Try.f6) (by kernel_rfl) (by kernel_rfl) k_fareboxlaw05_MoneyMore sp_fareboxlaw05_MoneyMore (by kernel_rfl) (by kernel_rfl) a_fareboxlaw05_MoneyMore ?_
  intro args hp s u hfit h
  unfold sp_fareboxlaw05_MoneyMore at h
  split at h
  · rename_i a b o_ws ws
    obtain ⟨hvc, rfl, rfl⟩ := h.vc
    clear h hfit
    change List Int at ws
    conv => whnf
    repeat' (first
      | (refine And.intro ?_ ?_ <;> try conv => whnf)
      | (intro hh; first | (cases hh; done) | conv => whnf))
    all_goals try first | rfl | kernel_rfl
    all_goals try simp only [decide_eq_true_eq, decide_eq_false_iff_not] at *
    all_goals try simp only [Key_eta, Share_eta, Journey_eta, Batch_eta, FieldT_eta, OpB_eta, Product_eta, Key_beq, Share_beq, Journey_beq, FieldT_beq, Product_beq, toNat0, toNat1, toNat2, toNat3, toNat4, toNat5, toNat6, toNat7, toNat8, toNat9, toNat10, toNat11, toNat12, toNat13, toNat14, toNat15, toNat16, toNat17, toNat18, toNat19, iA, iOf, atS, rwA, castK, zK, true_and, and_true, decide_eq_true_eq, decide_eq_false_iff_not, beq_iff_eq, bne_iff_ne, beq_eq_false_iff_ne, bne_eq_false_iff_eq, Bool.not_eq_true', Bool.not_eq_false', Bool.not_eq_true, Bool.not_eq_false, Nat.succ_eq_add_one, Int.not_lt, Int.not_le, gt_iff_lt, ge_iff_le, show bytesS T_fareboxlaw05_MoneyMore 22 = 8 from rfl] at *
    all_goals obtain ⟨hA, hB, hL, hR⟩ := hvc
    all_goals try exact Vc.mk ⟨by omega, hR⟩
    all_goals try exact Res.mk trivial
    all_goals try exact ⟨⟨by omega, by omega⟩⟩
    all_goals have hw : IntKind.i64.wrap (a + b) = a + b := wrap64 (by omega) (by omega)
    all_goals try simp only [hw] at *
    all_goals obtain ⟨s1, s2⟩ := more_same (a := a) (b := b) (ws := ws) (by omega) (by omega) (by omega)
    all_goals have hle := splitL_le (a := a) (ws := ws)
    all_goals try exact Vc.mk ⟨by decide, by decide⟩
    all_goals try exact absurd s1.symm ‹_ ≠ _›
    all_goals try (exfalso; omega)
    all_goals try (
      have q := ‹IMo _ _ _›
      obtain ⟨q1, q2⟩ := q)
    all_goals try (
      have e := more_at (a := a) (b := b) (ws := ws) (by omega) (by omega) (by omega) q1
      specialize e (by assumption)
      obtain ⟨e1, e2⟩ := e)
    all_goals try (refine Vc.mk ?_; omega)
    all_goals try exact ⟨⟨by rw [wrap64 (by omega) (by omega)]; omega, by rw [wrap64 (by omega) (by omega)]; omega⟩, by rw [wrap64 (by omega) (by omega)]; omega⟩
    all_goals try (exfalso; omega)
    all_goals obtain ⟨l1, l2⟩ := lone (a := a) (by omega) (by omega)
    all_goals try simp only [l1, l2] at *
    all_goals try exact Vc.mk (by decide)
    all_goals first
      | exact Vc.mk ⟨by omega, by simp only [List.length_cons, List.length_nil]; omega⟩
      | exact Res.mk rfl
      | (exfalso; simp at *; done)
    
  · exact h.fail.elim

end Go.Proofs.Ytgajbggdamlhlaa.Sx
