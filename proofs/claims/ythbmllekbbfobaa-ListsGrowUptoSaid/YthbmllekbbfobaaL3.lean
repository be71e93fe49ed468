import Derived.Test.YthbmllekbbfobaaProg
import Derived.Test.YthbmllekbbfobaaSxU
import Derived.IntWalk
import Derived.Test.YthbmllekbbfobaaL3r
/-! lists, Put -/
namespace Go.Proofs.Ythbmllekbbfobaa.Sx
open Go
set_option linter.unusedVariables false
set_option linter.unusedSimpArgs false
set_option maxRecDepth 100000

def T_lists_Put : TT := [(3, ⟨.int .i64, 1, 8, [.int .i64 0], some .int⟩),
  (4, ⟨.bool, 1, 1, [.bool false], some .bool⟩),
  (5, ⟨.int .u8, 1, 1, [.int .u8 0], some .u8⟩),
  (22, ⟨.slice 52, 1, 24, [.slice none 0 0], none⟩),
  (24, ⟨.strct [(0, 3), (1, 22), (2, 22)], 3, 56, [.int .i64 0, .slice none 0 0, .slice none 0 0], some .delta⟩),
  (25, ⟨.slice 5, 1, 24, [.slice none 0 0], none⟩),
  (27, ⟨.int .i64, 1, 8, [.int .i64 0], some .int⟩),
  (52, ⟨.strct [(0, 3), (1, 3), (2, 3), (3, 3), (4, 3)], 5, 40, [.int .i64 0, .int .i64 0, .int .i64 0, .int .i64 0, .int .i64 0], some .item⟩),
  (125, ⟨.slice 126, 1, 24, [.slice none 0 0], none⟩),
  (126, ⟨.ptr, 1, 8, [.pointer none], none⟩),
  (128, ⟨.ptr, 1, 8, [.pointer none], none⟩),
  (129, ⟨.other, 1, 8, [.nilFunc], none⟩),
  (131, ⟨.strct [(0, 25), (1, 3)], 2, 32, [.slice none 0 0, .int .i64 0], none⟩),
  (134, ⟨.strct [(0, 3), (1, 3)], 2, 16, [.int .i64 0, .int .i64 0], some .fieldT⟩),
  (192, ⟨.slice 22, 1, 24, [.slice none 0 0], none⟩),
  (196, ⟨.slice 134, 1, 24, [.slice none 0 0], none⟩)]
theorem tOk_lists_Put : TOk Try.prog T_lists_Put := tOk_of (by kernel_rfl)
def sp_lists_Put : Spec := fun args hp => match args, hp with
  | [.agg [.val (.int .i64 d_to), .slF 0, .slF 1]], [(0, .row o_d_add .item d_add), (1, .row o_d_off .item d_off)] => .vc ((⟨d_to, d_add, d_off⟩ : Delta).add.length ≤ 1048576 ∧ (⟨d_to, d_add, d_off⟩ : Delta).off.length ≤ 1048576) (.tup [.slF 2000, iv (putDE (⟨d_to, d_add, d_off⟩ : Delta).to (⟨d_to, d_add, d_off⟩ : Delta).add (⟨d_to, d_add, d_off⟩ : Delta).off)]) [(2000, some (.row true .u8 (putD (⟨d_to, d_add, d_off⟩ : Delta).to (⟨d_to, d_add, d_off⟩ : Delta).add (⟨d_to, d_add, d_off⟩ : Delta).off)))]
  | _, _ => .fail "lists_Put"
abbrev k_lists_Put : List (Option RK) := [none]
def a_lists_Put : List SV → List (Nat × VB) → Anns := fun args hp => match args, hp with
  | [.agg [.val (.int .i64 d_to), .slF 0, .slF 1]], [(0, .row o_d_add .item d_add), (1, .row o_d_off .item d_off)] => [(5, fun S => .inv [] [] [] fun ids vs rs => { cars := [.i 26 .i64], inv := fun ((i, _) : Int × Unit) => IPb (d_add ++ d_off) i, mu := fun ((i, _) : Int × Unit) => d_add.length + d_off.length - i.toNat }),
    (15, fun S => .inv [pOf (S.get 6)] [] [] fun ids vs rs => { cars := [.i 60 .i64, .blk (atN ids 0) [.r true .u8, .i .i64]], inv := fun ((i, (xs, n, _), _) : Int × (List Int × Int × Unit) × Unit) => IPl (bytesF [⟨32, d_to⟩, ⟨8, d_add.length⟩, ⟨8, d_off.length⟩]) (d_add ++ d_off) i xs n, mu := fun ((i, (xs, n, _), _) : Int × (List Int × Int × Unit) × Unit) => d_add.length + d_off.length - i.toNat }),
    (18, fun S => .unroll 6)]
  | _, _ => []
set_option maxHeartbeats 20000000 in
theorem ok_lists_Put : GOk Try.prog 15 (lift k_lists_Put sp_lists_Put) := by
  refine pf_ok (T := T_lists_Put) (Γ := (57, lift k_slices_Concat_api_Item_api_Item sp_slices_Concat_api_Item_api_Item) :: (59, lift k_lists_fields sp_lists_fields) :: (58, lift k_slices_ContainsFunc_int_int sp_slices_ContainsFunc_int_int) :: (61, lift k_bits_Writer_Put sp_bits_Writer_Put) :: (62, lift k_bits_Writer_Bytes sp_bits_Writer_Bytes) :: []) tOk_lists_Put (gOks_cons ok_slices_Concat_api_Item_api_Item (gOks_cons ok_lists_fields (gOks_cons ok_slices_ContainsFunc_int_int (gOks_cons ok_bits_Writer_Put (gOks_cons ok_bits_Writer_Bytes (gOks_nil _)))))) mixed Try.func15 (c := body Try.f15) (by kernel_rfl) (by kernel_rfl) k_lists_Put sp_lists_Put (by kernel_rfl) (by kernel_rfl) a_lists_Put ?_
  intro args hp s u hfit h
  unfold sp_lists_Put at h
  split at h
  · rename_i d_to o_d_add d_add o_d_off d_off
    obtain ⟨hvc, rfl, rfl⟩ := h.vc
    clear h hfit
    conv => whnf
    repeat' (first
      | (refine And.intro ?_ ?_ <;> try conv => whnf)
      | (intro hh; first | (cases hh; done) | conv => whnf))
    all_goals try first | rfl | kernel_rfl
    all_goals try simp only [decide_eq_true_eq, decide_eq_false_iff_not] at *
    all_goals try simp only [Key_eta, Share_eta, Journey_eta, Batch_eta, FieldT_eta, OpB_eta, Product_eta, Item_eta, Delta_eta, Elem_eta, Rule_eta, Do10_eta, Ask_eta, Key_beq, Share_beq, Journey_beq, FieldT_beq, Product_beq, Item_beq, Do10_beq, Ask_beq, toNat0, toNat1, toNat2, toNat3, toNat4, toNat5, toNat6, toNat7, toNat8, toNat9, toNat10, toNat11, toNat12, toNat13, toNat14, toNat15, toNat16, toNat17, toNat18, toNat19, iA, iOf, atS, rwA, castK, zK, true_and, and_true, decide_eq_true_eq, decide_eq_false_iff_not, beq_iff_eq, bne_iff_ne, beq_eq_false_iff_ne, bne_eq_false_iff_eq, Bool.not_eq_true', Bool.not_eq_false', Bool.not_eq_true, Bool.not_eq_false, Nat.succ_eq_add_one, Int.not_lt, Int.not_le, gt_iff_lt, ge_iff_le, show bytesS T_lists_Put 22 = 40 from rfl, show bytesS T_lists_Put 25 = 1 from rfl, show bytesS T_lists_Put 125 = 8 from rfl, show bytesS T_lists_Put 192 = 24 from rfl, show bytesS T_lists_Put 196 = 16 from rfl] at *
    all_goals try (
      obtain ⟨j, hj, rfl, hb⟩ := ‹IPb _ _›
      rw [List.length_append] at hj)
    all_goals try (
      obtain ⟨m, hm, rfl, rfl, rfl⟩ := ‹IPl _ _ _ _ _›
      rw [List.length_append] at hm
      rcases Nat.lt_or_ge m (d_add ++ d_off).length with hm' | hm')
    all_goals try (
      have e0 : (((0 : Nat) : Int) + (j : Int)).toNat = j := by omega
      simp only [e0] at *)
    all_goals try (
      have e0 : (((0 : Nat) : Int) + (m : Int)).toNat = m := by omega
      simp only [e0] at *)
    all_goals try (
      obtain rfl : j = d_add.length + d_off.length
      · omega
      rw [← List.length_append, List.take_length] at hb)
    all_goals try (
      have hx := no_bad hm' hb)
    all_goals try (
      have hle := formIs_length ((d_add ++ d_off).take m)
      rw [List.length_take, List.length_append] at hle
      have hhd := head_length d_to d_add.length d_off.length)
    all_goals try (exfalso; rw [List.length_append] at hm'; omega)
    all_goals try (
      have p1 := putB_le (bytesF [⟨32, d_to⟩, ⟨8, (d_add.length : Int)⟩, ⟨8, (d_off.length : Int)⟩] ++ formIs ((d_add ++ d_off).take m)) ((d_add ++ d_off).getD m ⟨0, 0, 0, 0, 0⟩).card
      have p2 := putB_le (putB (bytesF [⟨32, d_to⟩, ⟨8, (d_add.length : Int)⟩, ⟨8, (d_off.length : Int)⟩] ++ formIs ((d_add ++ d_off).take m)) [⟨32, ((d_add ++ d_off).getD m ⟨0, 0, 0, 0, 0⟩).card⟩]) ((d_add ++ d_off).getD m ⟨0, 0, 0, 0, 0⟩).owner
      have p3 := putB_le (putB (putB (bytesF [⟨32, d_to⟩, ⟨8, (d_add.length : Int)⟩, ⟨8, (d_off.length : Int)⟩] ++ formIs ((d_add ++ d_off).take m)) [⟨32, ((d_add ++ d_off).getD m ⟨0, 0, 0, 0, 0⟩).card⟩]) [⟨32, ((d_add ++ d_off).getD m ⟨0, 0, 0, 0, 0⟩).owner⟩]) ((d_add ++ d_off).getD m ⟨0, 0, 0, 0, 0⟩).id
      have p4 := putB_le (putB (putB (putB (bytesF [⟨32, d_to⟩, ⟨8, (d_add.length : Int)⟩, ⟨8, (d_off.length : Int)⟩] ++ formIs ((d_add ++ d_off).take m)) [⟨32, ((d_add ++ d_off).getD m ⟨0, 0, 0, 0, 0⟩).card⟩]) [⟨32, ((d_add ++ d_off).getD m ⟨0, 0, 0, 0, 0⟩).owner⟩]) [⟨32, ((d_add ++ d_off).getD m ⟨0, 0, 0, 0, 0⟩).id⟩]) ((d_add ++ d_off).getD m ⟨0, 0, 0, 0, 0⟩).number)
    all_goals try (refine Vc.mk ?_; first | omega | (rw [List.length_append]; omega) | rfl | (rw [List.length_append, hle, hhd]; omega))
    all_goals try (refine Vc.mk ⟨?_, ?_⟩; · (intro f hf; rw [List.mem_singleton] at hf; subst hf; rfl))
    all_goals try (refine Vc.mk ⟨trivial, ?_, ?_⟩; · (intro f hf; rw [List.mem_singleton] at hf; subst hf; rfl))
    all_goals try (
      simp only [List.length_cons, List.length_nil]
      rw [List.length_append, hle, hhd] at p1
      omega)
    all_goals try (
      simp only [List.length_cons, List.length_nil, List.length_append, hle, hhd]
      omega)
    · exact Res.mk (by have : putDE d_to d_add d_off = 2 := if_pos (.inl (by omega)); simp [putD, this])
    · exact Res.mk (by have : putDE d_to d_add d_off = 2 := if_pos (.inr (by omega)); simp [putD, this])
    · exact ⟨⟨0, Nat.zero_le _, rfl, by simp⟩⟩
    · have : putDE d_to d_add d_off = 2 := by
        unfold putDE
        rw [if_neg (by omega), if_pos]
        exact any_getD (j := j) (d := ⟨0, 0, 0, 0, 0⟩) (by rw [List.length_append]; omega) (badI_of ‹_›)
      exact Res.mk (by simp [putD, this])
    · refine ⟨⟨j + 1, by rw [List.length_append]; omega, by rw [wrap64] <;> omega, ?_⟩, by rw [wrap64] <;> omega⟩
      rw [take_getD (d := (⟨0, 0, 0, 0, 0⟩ : Item)) (by rw [List.length_append]; omega), any_snoc, hb]
      rw [badI_no ‹_›]; rfl
    · have : putDE d_to d_add d_off = 11 := by
        unfold putDE
        rw [if_neg (by omega), if_neg (by rw [hb]; simp), if_pos (.inl (by omega))]
      exact Res.mk (by simp [putD, this])
    · have : putDE d_to d_add d_off = 11 := by
        unfold putDE
        rw [if_neg (by omega), if_neg (by rw [hb]; simp), if_pos (.inr (by omega))]
      exact Res.mk (by simp [putD, this])
    · refine Vc.mk ⟨rfl, fun f hf => ?_, by simp⟩
      simp only [List.mem_cons, List.not_mem_nil, or_false] at hf
      rcases hf with rfl | rfl | rfl <;> rfl
    · rw [head_put (by omega) (by omega) (by omega) (by omega)]
      exact ⟨⟨0, Nat.zero_le _, rfl, by simp [formIs], rfl⟩⟩
    · rw [putB5 hx]
      refine ⟨⟨m + 1, by rw [List.length_append]; omega, by rw [wrap64] <;> omega, ?_, rfl⟩, by rw [wrap64] <;> omega⟩
      rw [take_getD (d := (⟨0, 0, 0, 0, 0⟩ : Item)) hm', formIs_snoc, List.append_assoc]
    · obtain rfl : m = d_add.length + d_off.length := by omega
      have : putDE d_to d_add d_off = 0 := by
        unfold putDE
        rw [if_neg (by omega), if_neg (by rw [hb]; simp), if_neg (by omega)]
      rw [← List.length_append, List.take_length]
      exact Res.mk (by simp [putD, this])
    
  · exact h.fail.elim

end Go.Proofs.Ythbmllekbbfobaa.Sx
