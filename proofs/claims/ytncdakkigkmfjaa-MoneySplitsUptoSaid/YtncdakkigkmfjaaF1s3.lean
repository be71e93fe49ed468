import Derived.Test.YtncdakkigkmfjaaProg
import Derived.Test.YtncdakkigkmfjaaSxU
import Derived.IntWalk
import Derived.Test.YtncdakkigkmfjaaF1s2
/-! bits -/
namespace Go.Proofs.Ytncdakkigkmfjaa.Sx
open Go
set_option linter.unusedVariables false
set_option linter.unusedSimpArgs false
set_option maxRecDepth 100000

def T_bits_Writer_Put : TT := [(3, ⟨.int .i64, 1, 8, [.int .i64 0], some .int⟩),
  (4, ⟨.bool, 1, 1, [.bool false], some .bool⟩),
  (5, ⟨.int .u8, 1, 1, [.int .u8 0], some .u8⟩),
  (27, ⟨.int .i64, 1, 8, [.int .i64 0], none⟩),
  (57, ⟨.slice 5, 1, 24, [.slice none 0 0], none⟩),
  (109, ⟨.strct [(0, 57), (1, 3)], 2, 32, [.slice none 0 0, .int .i64 0], none⟩),
  (112, ⟨.strct [(0, 3), (1, 3)], 2, 16, [.int .i64 0, .int .i64 0], some .fieldT⟩),
  (135, ⟨.ptr, 1, 8, [.pointer none], none⟩),
  (136, ⟨.slice 112, 1, 24, [.slice none 0 0], none⟩)]
theorem tOk_bits_Writer_Put : TOk Try.prog T_bits_Writer_Put := tOk_of (by kernel_rfl)
def sp_bits_Writer_Put : Spec := fun args hp => match args, hp with
  | [.ptr 0 0, .slF 1], [(0, .cells [.slF 2, .val (.int .i64 w_n)]), (1, .row o_fs .fieldT fs), (2, .row true .u8 w_b)] => .vc (w_n = 8 * w_b.length ∧ (∀ f ∈ fs, f.width % 8 = 0) ∧ w_b.length + 4 * fs.length ≤ 1099511627776) (iv (putE fs)) [(0, some (.cells [.slF 2000, iv (8 * (putB w_b fs).length)])), (2, none), (2000, some (.row true .u8 (putB w_b fs)))]
  | _, _ => .fail "bits_Writer_Put"
abbrev k_bits_Writer_Put : List (Option RK) := [none, some .fieldT]
def a_bits_Writer_Put : List SV → List (Nat × VB) → Anns := fun args hp => match args, hp with
  | [.ptr 0 0, .slF 1], [(0, .cells [.slF 2, .val (.int .i64 w_n)]), (1, .row o_fs .fieldT fs), (2, .row true .u8 w_b)] => [(2, fun S => .inv [] [] fun ids vs => { cars := [.i 12 .i64], inv := fun ((i, _) : Int × Unit) => IP1 fs i, mu := fun ((i, _) : Int × Unit) => fs.length - i.toNat }),
    (8, fun S => .inv [pOf (S.get 0)] [] fun ids vs => { cars := [.i 22 .i64, .blk (atN ids 0) [.r true .u8, .i .i64]], inv := fun ((i, (xs, n, _), _) : Int × (List Int × Int × Unit) × Unit) => IP2 w_b fs i xs n, mu := fun ((i, (xs, n, _), _) : Int × (List Int × Int × Unit) × Unit) => fs.length - i.toNat }),
    (11, fun S => .inv [pOf (S.get 0)] [S.get 22] fun ids vs => { cars := [.i 9 .i64, .blk (atN ids 0) [.r true .u8, .i .i64]], inv := fun ((i, (xs, n, _), _) : Int × (List Int × Int × Unit) × Unit) => IP3 (w_b ++ bytesF (fs.take ((iA vs 0)).toNat)) (fs.getD ((iA vs 0)).toNat ⟨0, 0⟩) i xs n, mu := fun ((i, (xs, n, _), _) : Int × (List Int × Int × Unit) × Unit) => (i + 1).toNat })]
  | _, _ => []
set_option maxHeartbeats 20000000 in
theorem ok_bits_Writer_Put : GOk Try.prog 65 (lift k_bits_Writer_Put sp_bits_Writer_Put) := by
  refine pf_ok (T := T_bits_Writer_Put) (Γ := (89, lift k_bits_right sp_bits_right) :: []) tOk_bits_Writer_Put (gOks_cons ok_bits_right (gOks_nil _)) mixed Try.func65 (c := body Try.f65) (by kernel_rfl) (by kernel_rfl) k_bits_Writer_Put sp_bits_Writer_Put (by kernel_rfl) (by kernel_rfl) a_bits_Writer_Put ?_
  intro args hp s u hfit h
  unfold sp_bits_Writer_Put at h
  split at h
  · rename_i w_n o_fs fs w_b
    obtain ⟨hvc, rfl, rfl⟩ := h.vc
    clear h hfit
    change List FieldT at fs
    conv => whnf
    repeat' (first
      | (refine And.intro ?_ ?_ <;> try conv => whnf)
      | (intro hh; first | (cases hh; done) | conv => whnf))
    all_goals try first | rfl | kernel_rfl
    all_goals try simp only [decide_eq_true_eq, decide_eq_false_iff_not] at *
    all_goals try simp only [Key_eta, Share_eta, Journey_eta, Batch_eta, FieldT_eta, OpB_eta, Product_eta, Key_beq, Share_beq, Journey_beq, FieldT_beq, Product_beq, toNat0, toNat1, toNat2, toNat3, toNat4, toNat5, toNat6, toNat7, toNat8, toNat9, toNat10, toNat11, toNat12, toNat13, toNat14, toNat15, toNat16, toNat17, toNat18, toNat19, iA, iOf, atS, zK, true_and, and_true, decide_eq_true_eq, decide_eq_false_iff_not, beq_iff_eq, bne_iff_ne, beq_eq_false_iff_ne, bne_eq_false_iff_eq, Bool.not_eq_true', Bool.not_eq_false', Bool.not_eq_true, Bool.not_eq_false, Nat.succ_eq_add_one, Int.not_lt, Int.not_le, gt_iff_lt, ge_iff_le, show bytesS T_bits_Writer_Put 57 = 1 from rfl, show bytesS T_bits_Writer_Put 136 = 16 from rfl] at *
    all_goals obtain ⟨hn, h8, hlen⟩ := hvc
    all_goals try (obtain ⟨j1, hj1, rfl, hr1⟩ := ‹IP1 _ _›)
    all_goals try (obtain ⟨j, hj, rfl, hr, rfl, hn2⟩ := ‹IP2 _ _ _ _ _›)
    all_goals try (
      have hj' : j < fs.length := by omega
      (try simp only [Int.toNat_natCast] at *)
      obtain ⟨q1, q2, q3, q4⟩ := rightF_w (all_getD (d := (⟨0, 0⟩ : FieldT)) hr hj')
      have q8 := h8 _ (mem_getD (d := (⟨0, 0⟩ : FieldT)) hj')
      have ql := bytesF_len (fs.take j) (by rw [List.all_eq_true] at *; exact fun x hx => hr x (List.mem_of_mem_take hx)))
    all_goals try (
      obtain ⟨k, hk, rfl, rfl, rfl⟩ := ‹IP3 _ _ _ _ _›
      obtain ⟨bl, hbl⟩ : ∃ bl, bl = (w_b ++ bytesF (fs.take j)).length := ⟨_, rfl⟩
      have hbl2 : bl ≤ w_b.length + 4 * j := by rw [hbl, List.length_append]; rw [List.length_take] at ql; omega
      have t1 : (8 * ((w_b ++ bytesF (fs.take j)).length : Int) + k).tdiv 8 = ((bl + k / 8 : Nat) : Int) := by rw [← hbl, Int.tdiv_eq_ediv_of_nonneg (by omega)]; omega
      have t2 : (8 * ((w_b ++ bytesF (fs.take j)).length : Int) + k).tmod 8 = ((k % 8 : Nat) : Int) := by rw [← hbl, Int.tmod_eq_emod_of_nonneg (by omega)]; omega
      have t3 : (wr (fs.getD j ⟨0, 0⟩).value (fs.getD j ⟨0, 0⟩).width.toNat k).length = (k + 7) / 8 := wr_length _ _ _
      have t4 : (fs.getD j ⟨0, 0⟩).value < 4294967296 := by
        have : (2 : Int) ^ (fs.getD j ⟨0, 0⟩).width.toNat ≤ 4294967296 := by
          obtain ⟨m, hm, hm'⟩ : ∃ m : Nat, (fs.getD j ⟨0, 0⟩).width.toNat = 8 * m ∧ m ≤ 4 := ⟨(fs.getD j ⟨0, 0⟩).width.toNat / 8, by omega, by omega⟩
          rw [hm]
          have : m = 0 ∨ m = 1 ∨ m = 2 ∨ m = 3 ∨ m = 4 := by omega
          rcases this with rfl | rfl | rfl | rfl | rfl <;> decide
        omega
      simp only [t1, t2] at *)
    all_goals try (refine Vc.mk ?_; (try simp (disch := omega) only [wrap64, List.length_append, List.length_cons, List.length_nil, Int.toNat_natCast]); (try simp only [List.length_append] at *); omega)
    · exact ⟨⟨0, Nat.zero_le _, rfl, by simp⟩⟩
    · have hf : ¬ fs.all rightF = true := fun hc => by
        rw [Int.toNat_natCast] at *
        exact Bool.noConfusion ((all_getD (d := (⟨0, 0⟩ : FieldT)) hc (show j1 < fs.length by omega)).symm.trans ‹rightF _ = false›)
      refine Res.mk ?_
      unfold putB putE
      rw [if_neg hf, if_neg hf]
      exact ⟨rfl, hn, rfl⟩
    · have hlt : j1 < fs.length := by omega
      refine ⟨⟨j1 + 1, by omega, by rw [wrap64] <;> omega, ?_⟩, by rw [wrap64] <;> omega⟩
      rw [take_getD (d := (⟨0, 0⟩ : FieldT)) hlt, List.all_append, hr1]
      rw [Int.toNat_natCast] at *
      simp only [List.all_cons, List.all_nil, Bool.and_true, Bool.true_and]
      assumption
    · obtain rfl : j1 = fs.length := by omega
      rw [List.take_length] at hr1
      exact ⟨⟨0, Nat.zero_le _, rfl, hr1, by simp [bytesF], hn⟩⟩
    · exact ⟨⟨0, by omega, by rw [wrap64] <;> omega, by simp [wr_zero], by omega⟩⟩
    · refine ⟨⟨k + 1, by omega, by rw [wrap64] <;> omega, ?_, by rw [wrap64] <;> omega⟩, by rw [wrap64] <;> omega⟩
      exact put_new q3 t4 (by omega) q2 (by omega) (by rw [wrap64 (by omega) (by omega), Int.toNat_natCast, hbl]) (by omega) (by rw [wrap64 (by omega) (by omega)]; omega)
    · refine ⟨⟨k + 1, by omega, by rw [wrap64] <;> omega, ?_, by rw [wrap64] <;> omega⟩, by rw [wrap64] <;> omega⟩
      exact put_more q3 t4 (by omega) q2 (by omega) (by rw [wrap64 (by omega) (by omega), Int.toNat_natCast, hbl]) (by omega) (by rw [wrap64 (by omega) (by omega)]; omega)
    · obtain ⟨m, hm⟩ : ∃ m : Nat, (fs.getD j ⟨0, 0⟩).width = ((8 * m : Nat) : Int) := ⟨(fs.getD j ⟨0, 0⟩).width.toNat / 8, by omega⟩
      have hkm : k = 8 * m := by omega
      subst hkm
      refine ⟨⟨j + 1, by omega, by rw [wrap64] <;> omega, hr, ?_, ?_⟩, by rw [wrap64] <;> omega⟩
      · rw [take_getD (d := (⟨0, 0⟩ : FieldT)) hj', bytesF_snoc, hm, Int.toNat_natCast, wr_full, show 8 * m / 8 = m by omega, List.append_assoc]
      · simp only [List.length_append, t3] at *
        omega
    · obtain rfl : j = fs.length := by omega
      rw [List.take_length] at *
      refine Res.mk ?_
      unfold putB putE
      rw [if_pos hr, if_pos hr]
      exact ⟨rfl, hn2, rfl⟩
  · exact h.fail.elim

end Go.Proofs.Ytncdakkigkmfjaa.Sx
