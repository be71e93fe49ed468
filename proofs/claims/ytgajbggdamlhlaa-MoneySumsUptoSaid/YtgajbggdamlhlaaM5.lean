import Derived.Test.YtgajbggdamlhlaaProg
import Derived.Test.YtgajbggdamlhlaaSxU
import Derived.IntWalk
import Derived.Test.YtgajbggdamlhlaaM5r
/-! fareboxlaw05, Sum and Even -/
namespace Go.Proofs.Ytgajbggdamlhlaa.Sx
open Go
set_option linter.unusedVariables false
set_option linter.unusedSimpArgs false
set_option maxRecDepth 100000

def T_fareboxref05_Sum : TT := [(3, ⟨.int .i64, 1, 8, [.int .i64 0], some .int⟩),
  (4, ⟨.bool, 1, 1, [.bool false], some .bool⟩),
  (22, ⟨.slice 3, 1, 24, [.slice none 0 0], none⟩)]
theorem tOk_fareboxref05_Sum : TOk Try.prog T_fareboxref05_Sum := tOk_of (by kernel_rfl)
def sp_fareboxref05_Sum : Spec := fun args hp => match args, hp with
  | [.slF 0], [(0, .row o_ns .int ns)] => .vc (ns.length ≤ 1099511627776 ∧ ∀ n ∈ ns, -9223372036854775808 ≤ n ∧ n ≤ 9223372036854775807) (.tup [iv (sumV ns), bv (decide (sumE ns = 0))]) []
  | _, _ => .fail "fareboxref05_Sum"
abbrev k_fareboxref05_Sum : List (Option RK) := [some .int]
def a_fareboxref05_Sum : List SV → List (Nat × VB) → Anns := fun args hp => match args, hp with
  | [.slF 0], [(0, .row o_ns .int ns)] => [(3, fun S => .inv [] [] [] fun ids vs rs => { cars := [.i 5 .i64, .i 4 .i64], inv := fun ((i, s, _) : Int × Int × Unit) => ISum ns i s, mu := fun ((i, s, _) : Int × Int × Unit) => ns.length - i.toNat })]
  | _, _ => []
set_option maxHeartbeats 20000000 in
theorem ok_fareboxref05_Sum : GOk Try.prog 18 (lift k_fareboxref05_Sum sp_fareboxref05_Sum) := by
  refine pf_ok (T := T_fareboxref05_Sum) (Γ := []) tOk_fareboxref05_Sum (gOks_nil _) mixed Try.func18 (c := body Try.f18) (by kernel_rfl) (by kernel_rfl) k_fareboxref05_Sum sp_fareboxref05_Sum (by kernel_rfl) (by kernel_rfl) a_fareboxref05_Sum ?_
  intro args hp s u hfit h
  unfold sp_fareboxref05_Sum at h
  split at h
  · rename_i o_ns ns
    obtain ⟨hvc, rfl, rfl⟩ := h.vc
    clear h hfit
    change List Int at ns
    conv => whnf
    repeat' (first
      | (refine And.intro ?_ ?_ <;> try conv => whnf)
      | (intro hh; first | (cases hh; done) | conv => whnf))
    all_goals try first | rfl | kernel_rfl
    all_goals try simp only [decide_eq_true_eq, decide_eq_false_iff_not] at *
    all_goals try simp only [Key_eta, Share_eta, Journey_eta, Batch_eta, FieldT_eta, OpB_eta, Product_eta, Key_beq, Share_beq, Journey_beq, FieldT_beq, Product_beq, toNat0, toNat1, toNat2, toNat3, toNat4, toNat5, toNat6, toNat7, toNat8, toNat9, toNat10, toNat11, toNat12, toNat13, toNat14, toNat15, toNat16, toNat17, toNat18, toNat19, iA, iOf, atS, rwA, castK, zK, true_and, and_true, decide_eq_true_eq, decide_eq_false_iff_not, beq_iff_eq, bne_iff_ne, beq_eq_false_iff_ne, bne_eq_false_iff_eq, Bool.not_eq_true', Bool.not_eq_false', Bool.not_eq_true, Bool.not_eq_false, Nat.succ_eq_add_one, Int.not_lt, Int.not_le, gt_iff_lt, ge_iff_le, show bytesS T_fareboxref05_Sum 22 = 8 from rfl] at *
    all_goals obtain ⟨hL, hR⟩ := hvc
    all_goals try (
      have q := ‹ISum _ _ _›
      have e := isum_ref q hL hR
      specialize e (by assumption)
      obtain ⟨f1, f2, f3, f4⟩ := e)
    all_goals try (refine Vc.mk ?_; omega)
    all_goals try exact Res.mk (sum_none (f2 ‹_› ‹_›))
    all_goals try exact Res.mk (sum_none (f3 ‹_› ‹_›))
    all_goals try exact Res.mk (isum_fin ‹ISum _ _ _› ‹_›)
    all_goals try exact ⟨⟨0, Nat.zero_le _, rfl, rfl, by decide, by decide⟩⟩
    all_goals (
      have g := f4 (by omega) (by omega)
      exact ⟨g.1, g.2⟩)
  · exact h.fail.elim

def T_money_Even : TT := [(3, ⟨.int .i64, 1, 8, [.int .i64 0], some .int⟩),
  (4, ⟨.bool, 1, 1, [.bool false], some .bool⟩),
  (22, ⟨.slice 3, 1, 24, [.slice none 0 0], none⟩),
  (24, ⟨.int .i64, 1, 8, [.int .i64 0], none⟩),
  (34, ⟨.slice 36, 1, 24, [.slice none 0 0], none⟩),
  (36, ⟨.strct [(0, 3), (1, 3)], 2, 16, [.int .i64 0, .int .i64 0], some .share⟩)]
theorem tOk_money_Even : TOk Try.prog T_money_Even := tOk_of (by kernel_rfl)
def sp_money_Even : Spec := fun args hp => match args, hp with
  | [.slF 0], [(0, .row o_sh .share sh)] => .vc (sh.length ≤ 1048576 ∧ ∀ n ∈ sh.map (·.amount), -9223372036854775808 ≤ n ∧ n ≤ 9223372036854775807) (bv (evenB sh)) []
  | _, _ => .fail "money_Even"
abbrev k_money_Even : List (Option RK) := [some .share]
def a_money_Even : List SV → List (Nat × VB) → Anns := fun args hp => match args, hp with
  | [.slF 0], [(0, .row o_sh .share sh)] => [(3, fun S => .inv [] [] [] fun ids vs rs => { cars := [.i 10 .i64, .r 3 true .int], inv := fun ((k, l, _) : Int × List Int × Unit) => IEv sh k l, mu := fun ((k, l, _) : Int × List Int × Unit) => sh.length - k.toNat })]
  | _, _ => []
set_option maxHeartbeats 20000000 in
theorem ok_money_Even : GOk Try.prog 19 (lift k_money_Even sp_money_Even) := by
  refine pf_ok (T := T_money_Even) (Γ := (17, lift k_money_Sum sp_money_Sum) :: []) tOk_money_Even (gOks_cons ok_money_Sum (gOks_nil _)) mixed Try.func19 (c := body Try.f19) (by kernel_rfl) (by kernel_rfl) k_money_Even sp_money_Even (by kernel_rfl) (by kernel_rfl) a_money_Even ?_
  intro args hp s u hfit h
  unfold sp_money_Even at h
  split at h
  · rename_i o_sh sh
    obtain ⟨hvc, rfl, rfl⟩ := h.vc
    clear h hfit
    change List Share at sh
    conv => whnf
    repeat' (first
      | (refine And.intro ?_ ?_ <;> try conv => whnf)
      | (intro hh; first | (cases hh; done) | conv => whnf))
    all_goals try first | rfl | kernel_rfl
    all_goals try simp only [decide_eq_true_eq, decide_eq_false_iff_not] at *
    all_goals try simp only [Key_eta, Share_eta, Journey_eta, Batch_eta, FieldT_eta, OpB_eta, Product_eta, Key_beq, Share_beq, Journey_beq, FieldT_beq, Product_beq, toNat0, toNat1, toNat2, toNat3, toNat4, toNat5, toNat6, toNat7, toNat8, toNat9, toNat10, toNat11, toNat12, toNat13, toNat14, toNat15, toNat16, toNat17, toNat18, toNat19, iA, iOf, atS, rwA, castK, zK, true_and, and_true, decide_eq_true_eq, decide_eq_false_iff_not, beq_iff_eq, bne_iff_ne, beq_eq_false_iff_ne, bne_eq_false_iff_eq, Bool.not_eq_true', Bool.not_eq_false', Bool.not_eq_true, Bool.not_eq_false, Nat.succ_eq_add_one, Int.not_lt, Int.not_le, gt_iff_lt, ge_iff_le, show bytesS T_money_Even 22 = 8 from rfl, show bytesS T_money_Even 34 = 16 from rfl] at *
    all_goals obtain ⟨hL, hR⟩ := hvc
    all_goals try exact ⟨⟨0, Nat.zero_le _, rfl, rfl⟩⟩
    all_goals try (
      have q := ‹IEv _ _ _›
      have e := iev_more q hL
      specialize e (by assumption)
      obtain ⟨f1, f2, f3, f4⟩ := e)
    all_goals try (refine Vc.mk ?_; first | omega | (simp only [List.length_cons, List.length_nil]; omega))
    all_goals try exact ⟨f3, f4⟩
    all_goals have e := iev_end ‹IEv _ _ _› ‹_›
    all_goals subst e
    · exact Vc.mk ⟨by rw [List.length_map]; omega, hR⟩
    all_goals exact Res.mk (by rw [Bool.eq_iff_iff]; simp [evenB, *])
  · exact h.fail.elim

def T_fareboxlaw05_MoneySums : TT := [(3, ⟨.int .i64, 1, 8, [.int .i64 0], some .int⟩),
  (4, ⟨.bool, 1, 1, [.bool false], some .bool⟩),
  (22, ⟨.slice 3, 1, 24, [.slice none 0 0], none⟩),
  (24, ⟨.int .i64, 1, 8, [.int .i64 0], none⟩),
  (34, ⟨.slice 36, 1, 24, [.slice none 0 0], none⟩),
  (36, ⟨.strct [(0, 3), (1, 3)], 2, 16, [.int .i64 0, .int .i64 0], some .share⟩)]
theorem tOk_fareboxlaw05_MoneySums : TOk Try.prog T_fareboxlaw05_MoneySums := tOk_of (by kernel_rfl)
def sp_fareboxlaw05_MoneySums : Spec := fun args hp => match args, hp with
  | [.slF 0], [(0, .row o_l .int l)] => .vc (l.length ≤ 1048576 ∧ ∀ n ∈ l, -9223372036854775808 ≤ n ∧ n ≤ 9223372036854775807) (bv true) []
  | _, _ => .fail "fareboxlaw05_MoneySums"
abbrev k_fareboxlaw05_MoneySums : List (Option RK) := [some .int]
def a_fareboxlaw05_MoneySums : List SV → List (Nat × VB) → Anns := fun args hp => match args, hp with
  | [.slF 0], [(0, .row o_l .int l)] => [(8, fun S => .inv [] [] [] fun ids vs rs => { cars := [.i 9 .i64, .r 8 true .share], inv := fun ((i, sh, _) : Int × List Share × Unit) => ISh l i sh, mu := fun ((i, sh, _) : Int × List Share × Unit) => l.length - i.toNat })]
  | _, _ => []
set_option maxHeartbeats 20000000 in
theorem ok_fareboxlaw05_MoneySums : GOk Try.prog 7 (lift k_fareboxlaw05_MoneySums sp_fareboxlaw05_MoneySums) := by
  refine pf_ok (T := T_fareboxlaw05_MoneySums) (Γ := (15, lift k_fareboxlaw05_awake sp_fareboxlaw05_awake) :: (17, lift k_money_Sum sp_money_Sum) :: (18, lift k_fareboxref05_Sum sp_fareboxref05_Sum) :: (19, lift k_money_Even sp_money_Even) :: []) tOk_fareboxlaw05_MoneySums (gOks_cons ok_fareboxlaw05_awake (gOks_cons ok_money_Sum (gOks_cons ok_fareboxref05_Sum (gOks_cons ok_money_Even (gOks_nil _))))) mixed Try.func7 (c := body Try.f7) (by kernel_rfl) (by kernel_rfl) k_fareboxlaw05_MoneySums sp_fareboxlaw05_MoneySums (by kernel_rfl) (by kernel_rfl) a_fareboxlaw05_MoneySums ?_
  intro args hp s u hfit h
  unfold sp_fareboxlaw05_MoneySums at h
  split at h
  · rename_i o_l l
    obtain ⟨hvc, rfl, rfl⟩ := h.vc
    clear h hfit
    change List Int at l
    conv => whnf
    repeat' (first
      | (refine And.intro ?_ ?_ <;> try conv => whnf)
      | (intro hh; first | (cases hh; done) | conv => whnf))
    all_goals try first | rfl | kernel_rfl
    all_goals try simp only [decide_eq_true_eq, decide_eq_false_iff_not] at *
    all_goals try simp only [Key_eta, Share_eta, Journey_eta, Batch_eta, FieldT_eta, OpB_eta, Product_eta, Key_beq, Share_beq, Journey_beq, FieldT_beq, Product_beq, toNat0, toNat1, toNat2, toNat3, toNat4, toNat5, toNat6, toNat7, toNat8, toNat9, toNat10, toNat11, toNat12, toNat13, toNat14, toNat15, toNat16, toNat17, toNat18, toNat19, iA, iOf, atS, rwA, castK, zK, true_and, and_true, decide_eq_true_eq, decide_eq_false_iff_not, beq_iff_eq, bne_iff_ne, beq_eq_false_iff_ne, bne_eq_false_iff_eq, Bool.not_eq_true', Bool.not_eq_false', Bool.not_eq_true, Bool.not_eq_false, Nat.succ_eq_add_one, Int.not_lt, Int.not_le, gt_iff_lt, ge_iff_le, show bytesS T_fareboxlaw05_MoneySums 22 = 8 from rfl, show bytesS T_fareboxlaw05_MoneySums 34 = 16 from rfl] at *
    all_goals obtain ⟨hL, hR⟩ := hvc
    all_goals try simp only [List.nil_append, List.length_nil, Nat.zero_add] at *
    all_goals try exact Vc.mk ⟨by omega, hR⟩
    all_goals try exact ⟨⟨0, Nat.zero_le _, rfl, rfl⟩⟩
    all_goals try (
      have q := ‹ISh _ _ _›
      have e := ish_more q hL
      specialize e (by assumption)
      obtain ⟨f1, f2, f3, f4⟩ := e)
    all_goals try (refine Vc.mk ?_; first | omega | (simp only [List.length_cons, List.length_nil]; omega))
    all_goals try exact ⟨f3, f4⟩
    all_goals try exact absurd rfl ‹_ ≠ _›
    all_goals obtain ⟨e1, e2⟩ := ish_end ‹ISh _ _ _› ‹_›
    all_goals try exact Vc.mk ⟨by omega, by rw [e1]; exact hR⟩
    all_goals try (refine Res.mk ?_; unfold evenB; rw [e1, Bool.eq_iff_iff]; simp [*]; done)
    all_goals (
      exfalso
      have := sumE_two l
      omega)
  · exact h.fail.elim

end Go.Proofs.Ytgajbggdamlhlaa.Sx
