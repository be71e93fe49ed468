import Derived.Test.YtncdakkigkmfjaaProg
import Derived.Test.YtncdakkigkmfjaaSxU
import Derived.IntWalk
import Derived.Test.YtncdakkigkmfjaaKb
/-! keys -/
namespace Go.Proofs.Ytncdakkigkmfjaa.Sx
open Go
set_option linter.unusedVariables false
set_option linter.unusedSimpArgs false
set_option maxRecDepth 100000

/-- keys.Right -/
def right (k : Key) : Bool := decide (k.ver ≥ 1) && decide (k.ver ≤ 255) && decide (k.op ≥ 0) && decide (k.op ≤ 4) && decide (k.ty ≥ 0) && decide (k.ty < 5) && decide (k.card ≥ 0) && decide (k.card ≤ 65535) && (decide (k.op ≠ 0) || decide (k.ty = 0)) && (decide (k.ty ≠ 0) || decide (k.card = 0))
def level (k : Key) : Int := if right k = false then -1 else if k.card ≠ 0 then 3 else if k.ty ≠ 0 then 2 else if k.op ≠ 0 then 1 else 0
def atK (k : Key) (l n : Int) : Key := ⟨if l = 0 then n else k.op, if l = 1 then n else k.ty, if l = 2 then n else k.card, k.ver⟩
def zkey : Key := ⟨0, 0, 0, 0⟩
def go (k : Key) (l : Int) : List Int → Option Key
  | [] => some k
  | n :: p => if n = 0 ∨ right (atK k l n) = false then none else go (atK k l n) (l + 1) p
def derive (k : Key) (p : List Int) : Key × Int :=
  if level k < 0 then (zkey, 2) else if level k + p.length > 3 then (zkey, 15) else match go k (level k) p with
    | some x => (x, 0)
    | none => (zkey, 2)
theorem level_range (k : Key) : -1 ≤ level k ∧ level k ≤ 3 := by
  unfold level; split <;> (try split) <;> (try split) <;> (try split) <;> omega


def T_fareboxref09_Row : TT := [(3, ⟨.int .i64, 1, 8, [.int .i64 0], some .int⟩),
  (23, ⟨.strct [(0, 3), (1, 3), (2, 3), (3, 3)], 4, 32, [.int .i64 0, .int .i64 0, .int .i64 0, .int .i64 0], some .key⟩),
  (104, ⟨.arr 3 3, 3, 24, [.int .i64 0, .int .i64 0, .int .i64 0], none⟩)]
theorem tOk_fareboxref09_Row : TOk Try.prog T_fareboxref09_Row := tOk_of (by kernel_rfl)
def sp_fareboxref09_Row : Spec := fun args hp => match args, hp with
  | [.agg k_cs], [] => (match decS .key k_cs with
    | some k => .ok (.agg [iv k.op, iv k.ty, iv k.card]) []
    | none => .fail "struct")
  | _, _ => .fail "fareboxref09_Row"
abbrev k_fareboxref09_Row : List (Option RK) := [none]
def a_fareboxref09_Row : List SV → List (Nat × VB) → Anns := fun _ _ => []
set_option maxHeartbeats 20000000 in
theorem ok_fareboxref09_Row : GOk Try.prog 61 (lift k_fareboxref09_Row sp_fareboxref09_Row) := by
  refine pf_ok (T := T_fareboxref09_Row) (Γ := []) tOk_fareboxref09_Row (gOks_nil _) mixed Try.func61 (c := body Try.f61) (by kernel_rfl) (by kernel_rfl) k_fareboxref09_Row sp_fareboxref09_Row (by kernel_rfl) (by kernel_rfl) a_fareboxref09_Row ?_
  intro args hp s u hfit h
  unfold sp_fareboxref09_Row at h
  split at h
  · rename_i k_cs
    split at h
    case h_2 => exact h.fail.elim
    rename_i k h_k
    obtain rfl := decS_ok (k := .key) rfl h_k
    clear h_k
    change Key at k
    obtain ⟨rfl, rfl⟩ := h.ok
    clear h hfit
    conv => whnf
    repeat' (first
      | (refine And.intro ?_ ?_ <;> try conv => whnf)
      | (intro hh; first | (cases hh; done) | conv => whnf))
    all_goals try first | rfl | kernel_rfl
    all_goals try simp only [Key_eta, Share_eta, Journey_eta, Batch_eta, FieldT_eta, OpB_eta, Product_eta, Key_beq, Share_beq, Journey_beq, FieldT_beq, Product_beq, toNat0, toNat1, toNat2, toNat3, toNat4, toNat5, toNat6, toNat7, toNat8, toNat9, toNat10, toNat11, toNat12, toNat13, toNat14, toNat15, toNat16, toNat17, toNat18, toNat19, iA, iOf, atS, zK, true_and, and_true, decide_eq_true_eq, decide_eq_false_iff_not, beq_iff_eq, bne_iff_ne, beq_eq_false_iff_ne, bne_eq_false_iff_eq, Bool.not_eq_true', Bool.not_eq_false', Bool.not_eq_true, Bool.not_eq_false, Nat.succ_eq_add_one, Int.not_lt, Int.not_le, gt_iff_lt, ge_iff_le] at *
    all_goals exact ⟨by simp⟩
  · exact h.fail.elim

def T_keys_Right : TT := [(3, ⟨.int .i64, 1, 8, [.int .i64 0], some .int⟩),
  (4, ⟨.bool, 1, 1, [.bool false], some .bool⟩),
  (23, ⟨.strct [(0, 3), (1, 3), (2, 3), (3, 3)], 4, 32, [.int .i64 0, .int .i64 0, .int .i64 0, .int .i64 0], some .key⟩)]
theorem tOk_keys_Right : TOk Try.prog T_keys_Right := tOk_of (by kernel_rfl)
def sp_keys_Right : Spec := fun args hp => match args, hp with
  | [.agg k_cs], [] => (match decS .key k_cs with
    | some k => .ok (bv (right k)) []
    | none => .fail "struct")
  | _, _ => .fail "keys_Right"
abbrev k_keys_Right : List (Option RK) := [none]
def a_keys_Right : List SV → List (Nat × VB) → Anns := fun _ _ => []
set_option maxHeartbeats 20000000 in
theorem ok_keys_Right : GOk Try.prog 22 (lift k_keys_Right sp_keys_Right) := by
  refine pf_ok (T := T_keys_Right) (Γ := []) tOk_keys_Right (gOks_nil _) mixed Try.func22 (c := body Try.f22) (by kernel_rfl) (by kernel_rfl) k_keys_Right sp_keys_Right (by kernel_rfl) (by kernel_rfl) a_keys_Right ?_
  intro args hp s u hfit h
  unfold sp_keys_Right at h
  split at h
  · rename_i k_cs
    split at h
    case h_2 => exact h.fail.elim
    rename_i k h_k
    obtain rfl := decS_ok (k := .key) rfl h_k
    clear h_k
    change Key at k
    obtain ⟨rfl, rfl⟩ := h.ok
    clear h hfit
    conv => whnf
    repeat' (first
      | (refine And.intro ?_ ?_ <;> try conv => whnf)
      | (intro hh; first | (cases hh; done) | conv => whnf))
    all_goals try first | rfl | kernel_rfl
    all_goals try simp only [Key_eta, Share_eta, Journey_eta, Batch_eta, FieldT_eta, OpB_eta, Product_eta, Key_beq, Share_beq, Journey_beq, FieldT_beq, Product_beq, toNat0, toNat1, toNat2, toNat3, toNat4, toNat5, toNat6, toNat7, toNat8, toNat9, toNat10, toNat11, toNat12, toNat13, toNat14, toNat15, toNat16, toNat17, toNat18, toNat19, iA, iOf, atS, zK, true_and, and_true, decide_eq_true_eq, decide_eq_false_iff_not, beq_iff_eq, bne_iff_ne, beq_eq_false_iff_ne, bne_eq_false_iff_eq, Bool.not_eq_true', Bool.not_eq_false', Bool.not_eq_true, Bool.not_eq_false, Nat.succ_eq_add_one, Int.not_lt, Int.not_le, gt_iff_lt, ge_iff_le] at *
    all_goals (refine ⟨?_⟩; rw [Bool.eq_iff_iff]; simp_all [right] <;> omega)
  · exact h.fail.elim

def T_keys_Level : TT := [(3, ⟨.int .i64, 1, 8, [.int .i64 0], some .int⟩),
  (4, ⟨.bool, 1, 1, [.bool false], some .bool⟩),
  (23, ⟨.strct [(0, 3), (1, 3), (2, 3), (3, 3)], 4, 32, [.int .i64 0, .int .i64 0, .int .i64 0, .int .i64 0], some .key⟩)]
theorem tOk_keys_Level : TOk Try.prog T_keys_Level := tOk_of (by kernel_rfl)
def sp_keys_Level : Spec := fun args hp => match args, hp with
  | [.agg k_cs], [] => (match decS .key k_cs with
    | some k => .ok (iv (level k)) []
    | none => .fail "struct")
  | _, _ => .fail "keys_Level"
abbrev k_keys_Level : List (Option RK) := [none]
def a_keys_Level : List SV → List (Nat × VB) → Anns := fun _ _ => []
set_option maxHeartbeats 20000000 in
theorem ok_keys_Level : GOk Try.prog 23 (lift k_keys_Level sp_keys_Level) := by
  refine pf_ok (T := T_keys_Level) (Γ := (22, lift k_keys_Right sp_keys_Right) :: []) tOk_keys_Level (gOks_cons ok_keys_Right (gOks_nil _)) mixed Try.func23 (c := body Try.f23) (by kernel_rfl) (by kernel_rfl) k_keys_Level sp_keys_Level (by kernel_rfl) (by kernel_rfl) a_keys_Level ?_
  intro args hp s u hfit h
  unfold sp_keys_Level at h
  split at h
  · rename_i k_cs
    split at h
    case h_2 => exact h.fail.elim
    rename_i k h_k
    obtain rfl := decS_ok (k := .key) rfl h_k
    clear h_k
    change Key at k
    obtain ⟨rfl, rfl⟩ := h.ok
    clear h hfit
    conv => whnf
    repeat' (first
      | (refine And.intro ?_ ?_ <;> try conv => whnf)
      | (intro hh; first | (cases hh; done) | conv => whnf))
    all_goals try first | rfl | kernel_rfl
    all_goals try simp only [Key_eta, Share_eta, Journey_eta, Batch_eta, FieldT_eta, OpB_eta, Product_eta, Key_beq, Share_beq, Journey_beq, FieldT_beq, Product_beq, toNat0, toNat1, toNat2, toNat3, toNat4, toNat5, toNat6, toNat7, toNat8, toNat9, toNat10, toNat11, toNat12, toNat13, toNat14, toNat15, toNat16, toNat17, toNat18, toNat19, iA, iOf, atS, zK, true_and, and_true, decide_eq_true_eq, decide_eq_false_iff_not, beq_iff_eq, bne_iff_ne, beq_eq_false_iff_ne, bne_eq_false_iff_eq, Bool.not_eq_true', Bool.not_eq_false', Bool.not_eq_true, Bool.not_eq_false, Nat.succ_eq_add_one, Int.not_lt, Int.not_le, gt_iff_lt, ge_iff_le] at *
    all_goals (refine ⟨?_⟩; simp_all [level])
  · exact h.fail.elim

def T_keys_at : TT := [(3, ⟨.int .i64, 1, 8, [.int .i64 0], some .int⟩),
  (4, ⟨.bool, 1, 1, [.bool false], some .bool⟩),
  (23, ⟨.strct [(0, 3), (1, 3), (2, 3), (3, 3)], 4, 32, [.int .i64 0, .int .i64 0, .int .i64 0, .int .i64 0], some .key⟩)]
theorem tOk_keys_at : TOk Try.prog T_keys_at := tOk_of (by kernel_rfl)
def sp_keys_at : Spec := fun args hp => match args, hp with
  | [.agg k_cs, .val (.int .i64 level), .val (.int .i64 n)], [] => (match decS .key k_cs with
    | some k => .ok (svKey (atK k level n)) []
    | none => .fail "struct")
  | _, _ => .fail "keys_at"
abbrev k_keys_at : List (Option RK) := [none, none, none]
def a_keys_at : List SV → List (Nat × VB) → Anns := fun _ _ => []
set_option maxHeartbeats 20000000 in
theorem ok_keys_at : GOk Try.prog 60 (lift k_keys_at sp_keys_at) := by
  refine pf_ok (T := T_keys_at) (Γ := []) tOk_keys_at (gOks_nil _) mixed Try.func60 (c := body Try.f60) (by kernel_rfl) (by kernel_rfl) k_keys_at sp_keys_at (by kernel_rfl) (by kernel_rfl) a_keys_at ?_
  intro args hp s u hfit h
  unfold sp_keys_at at h
  split at h
  · rename_i k_cs level n
    split at h
    case h_2 => exact h.fail.elim
    rename_i k h_k
    obtain rfl := decS_ok (k := .key) rfl h_k
    clear h_k
    change Key at k
    obtain ⟨rfl, rfl⟩ := h.ok
    clear h hfit
    conv => whnf
    repeat' (first
      | (refine And.intro ?_ ?_ <;> try conv => whnf)
      | (intro hh; first | (cases hh; done) | conv => whnf))
    all_goals try first | rfl | kernel_rfl
    all_goals try simp only [Key_eta, Share_eta, Journey_eta, Batch_eta, FieldT_eta, OpB_eta, Product_eta, Key_beq, Share_beq, Journey_beq, FieldT_beq, Product_beq, toNat0, toNat1, toNat2, toNat3, toNat4, toNat5, toNat6, toNat7, toNat8, toNat9, toNat10, toNat11, toNat12, toNat13, toNat14, toNat15, toNat16, toNat17, toNat18, toNat19, iA, iOf, atS, zK, true_and, and_true, decide_eq_true_eq, decide_eq_false_iff_not, beq_iff_eq, bne_iff_ne, beq_eq_false_iff_ne, bne_eq_false_iff_eq, Bool.not_eq_true', Bool.not_eq_false', Bool.not_eq_true, Bool.not_eq_false, Nat.succ_eq_add_one, Int.not_lt, Int.not_le, gt_iff_lt, ge_iff_le] at *
    all_goals (refine ⟨?_⟩; simp_all [atK] <;> omega)
  · exact h.fail.elim

def T_keys_Derive : TT := [(3, ⟨.int .i64, 1, 8, [.int .i64 0], some .int⟩),
  (4, ⟨.bool, 1, 1, [.bool false], some .bool⟩),
  (23, ⟨.strct [(0, 3), (1, 3), (2, 3), (3, 3)], 4, 32, [.int .i64 0, .int .i64 0, .int .i64 0, .int .i64 0], some .key⟩),
  (24, ⟨.slice 3, 1, 24, [.slice none 0 0], none⟩),
  (27, ⟨.int .i64, 1, 8, [.int .i64 0], none⟩)]
theorem tOk_keys_Derive : TOk Try.prog T_keys_Derive := tOk_of (by kernel_rfl)
def sp_keys_Derive : Spec := fun args hp => match args, hp with
  | [.agg root_cs, .slF 0], [(0, .row o_path .int path)] => (match decS .key root_cs with
    | some root => .vc (path.length ≤ 1099511627776) (.tup [svKey (derive root path).1, iv (derive root path).2]) []
    | none => .fail "struct")
  | _, _ => .fail "keys_Derive"
abbrev k_keys_Derive : List (Option RK) := [none, some .int]
def a_keys_Derive : List SV → List (Nat × VB) → Anns := fun args hp => match args, hp with
  | [.agg root_cs, .slF 0], [(0, .row o_path .int path)] => (match decS .key root_cs with
    | some root => [(8, fun S => .inv [pOf (S.get 7)] [] fun ids vs => { cars := [.i 26 .i64, .blk (atN ids 0) [.st .key]], inv := fun ((i, (k, _), _) : Int × (Key × Unit) × Unit) => ∃ j : Nat, j ≤ path.length ∧ i = j ∧ go k (level root + j) (path.drop j) = go root (level root) path, mu := fun ((i, (k, _), _) : Int × (Key × Unit) × Unit) => path.length - i.toNat })]
    | none => [])
  | _, _ => []
set_option maxHeartbeats 20000000 in
theorem ok_keys_Derive : GOk Try.prog 16 (lift k_keys_Derive sp_keys_Derive) := by
  refine pf_ok (T := T_keys_Derive) (Γ := (23, lift k_keys_Level sp_keys_Level) :: (60, lift k_keys_at sp_keys_at) :: (22, lift k_keys_Right sp_keys_Right) :: []) tOk_keys_Derive (gOks_cons ok_keys_Level (gOks_cons ok_keys_at (gOks_cons ok_keys_Right (gOks_nil _)))) mixed Try.func16 (c := body Try.f16) (by kernel_rfl) (by kernel_rfl) k_keys_Derive sp_keys_Derive (by kernel_rfl) (by kernel_rfl) a_keys_Derive ?_
  intro args hp s u hfit h
  unfold sp_keys_Derive at h
  split at h
  · rename_i root_cs o_path path
    split at h
    case h_2 => exact h.fail.elim
    rename_i root h_root
    obtain rfl := decS_ok (k := .key) rfl h_root
    clear h_root
    change Key at root
    obtain ⟨hvc, rfl, rfl⟩ := h.vc
    clear h hfit
    change List Int at path
    conv => whnf
    repeat' (first
      | (refine And.intro ?_ ?_ <;> try conv => whnf)
      | (intro hh; first | (cases hh; done) | conv => whnf))
    all_goals try first | rfl | kernel_rfl
    all_goals try simp only [Key_eta, Share_eta, Journey_eta, Batch_eta, FieldT_eta, OpB_eta, Product_eta, Key_beq, Share_beq, Journey_beq, FieldT_beq, Product_beq, toNat0, toNat1, toNat2, toNat3, toNat4, toNat5, toNat6, toNat7, toNat8, toNat9, toNat10, toNat11, toNat12, toNat13, toNat14, toNat15, toNat16, toNat17, toNat18, toNat19, iA, iOf, atS, zK, true_and, and_true, decide_eq_true_eq, decide_eq_false_iff_not, beq_iff_eq, bne_iff_ne, beq_eq_false_iff_ne, bne_eq_false_iff_eq, Bool.not_eq_true', Bool.not_eq_false', Bool.not_eq_true, Bool.not_eq_false, Nat.succ_eq_add_one, Int.not_lt, Int.not_le, gt_iff_lt, ge_iff_le] at *
    all_goals have hr := level_range root
    all_goals first
      | exact ⟨⟨0, Nat.zero_le _, rfl, by simp⟩⟩
      | (obtain ⟨j, hj, rfl, hg⟩ := ‹∃ j : Nat, j ≤ _ ∧ _ = _ ∧ _›
         try simp (disch := omega) only [wrap64, Int.toNat_natCast] at *
         first
         | exact ⟨by omega⟩
         | (have hd := drop_getD (d := (0 : Int)) (show j < path.length by omega)
            rw [hd] at hg
            simp only [go] at hg
            first
            | (rw [if_pos (by first | exact .inl ‹_› | exact .inr ‹_›)] at hg
               exact ⟨by unfold derive; rw [if_neg (by omega), if_neg (by omega), ← hg]; simp [zkey]⟩)
            | (rw [if_neg (by simp_all)] at hg
               refine ⟨⟨j + 1, by omega, by omega, ?_⟩, by omega⟩
               rw [← hg, show level root + ((j + 1 : Nat) : Int) = level root + j + 1 by omega]))
         | (obtain rfl : j = path.length := by omega
            rw [List.drop_length] at hg
            simp only [go] at hg
            exact ⟨by unfold derive; rw [if_neg (by omega), if_neg (by omega), ← hg]; simp⟩))
      | (try simp (disch := omega) only [wrap64] at *
         refine ⟨?_⟩
         unfold derive
         (repeat' split) <;> first | omega | simp [zkey])
  · exact h.fail.elim


def parent (k : Key) : Key × Int := if level k < 0 then (zkey, 2) else if level k = 0 then (zkey, 21) else (atK k (level k - 1) 0, 0)
def anc : Nat → Key → Key → Bool
  | 0, x, a => decide (x = a)
  | n + 1, x, a => decide (x = a) || anc n (atK x n 0) a
def fromK (k : Key) (above : List Key) : Bool := right k && above.all fun a => anc (level k).toNat k a
theorem level_right {k : Key} : (0 ≤ level k) ↔ right k = true := by
  unfold level
  cases h : right k <;> simp
  split <;> (try split) <;> (try split) <;> omega
theorem level_up {x : Key} {n : Nat} (h : level x = n + 1) : level (atK x n 0) = n := by
  have hr : right x = true := level_right.1 (by omega)
  have hn : n ≤ 2 := by have := level_range x; omega
  obtain ⟨a, b, c, d⟩ := x
  have : n = 0 ∨ n = 1 ∨ n = 2 := by omega
  rcases this with rfl | rfl | rfl
  all_goals
    simp [level, right, atK] at *
    (repeat' split at h) <;> simp_all <;> omega
theorem anc_self (n : Nat) (x : Key) : anc n x x = true := by cases n <;> simp [anc]
theorem parent_up {x : Key} {n : Nat} (h : level x = n + 1) : parent x = (atK x n 0, 0) := by
  unfold parent; rw [if_neg (by omega), if_neg (by omega), show level x - 1 = n by omega]
theorem parent_top {x : Key} (h : level x = 0) : (parent x).2 = 21 := by
  unfold parent; rw [if_neg (by omega), if_pos (by omega)]
theorem from_false {k : Key} {above : List Key} {j : Nat} (hj : j < above.length) (h : anc (level k).toNat k (above.getD j ⟨0, 0, 0, 0⟩) = false) : fromK k above = false := by
  unfold fromK
  rw [Bool.and_eq_false_iff]
  right
  rw [List.all_eq_false]
  refine ⟨above[j], List.getElem_mem hj, ?_⟩
  rw [show above.getD j ⟨0, 0, 0, 0⟩ = above[j] by simp [List.getD, hj]] at h
  simp [h]
theorem all_step {p : Key → Bool} {l : List Key} {j : Nat} (hj : j < l.length) (h : p (l.getD j ⟨0, 0, 0, 0⟩) = true) : (l.drop j).all p = (l.drop (j + 1)).all p := by
  rw [drop_getD (d := (⟨0, 0, 0, 0⟩ : Key)) hj, List.all_cons, h, Bool.true_and]
def roll (k : Key) : Key × Int := if right k = false then (zkey, 2) else if k.ver = 255 then (zkey, 29) else (⟨k.op, k.ty, k.card, k.ver + 1⟩, 0)
def prodKey (p : Product) : Key := ⟨p.owner, p.kind, p.card, p.ver⟩
def product (p : Product) : Key × Int := if level (prodKey p) ≠ 3 then (zkey, 2) else (prodKey p, 0)
def batchK (op ver : Int) : Key × Int := if level ⟨op, 0, 0, ver⟩ ≠ 1 then (zkey, 2) else (⟨op, 0, 0, ver⟩, 0)
def setAll (x : List Int) (n : Int) : List Int → List Int
  | [] => x
  | v :: p => setAll (x.set n.toNat v) (n + 1) p
theorem setAll_snoc : ∀ {p : List Int} {x : List Int} {n v : Int}, setAll x n (p ++ [v]) = (setAll x n p).set (n + p.length).toNat v
  | [], x, n, v => by simp [setAll]
  | a :: p, x, n, v => by
    simp only [List.cons_append, setAll]
    rw [setAll_snoc]
    congr 2
    simp; omega
theorem setAll_length : ∀ {p : List Int} {x : List Int} {n : Int}, (setAll x n p).length = x.length
  | [], x, n => rfl
  | a :: p, x, n => by simp only [setAll]; rw [setAll_length]; simp
def rowKey (x : List Int) (ver : Int) : Key := ⟨x.getD 0 0, x.getD 1 0, x.getD 2 0, ver⟩
def refDerive (k : Key) (p : List Int) : Key × Int :=
  if level k < 0 then (zkey, 2) else if level k + p.length > 3 then (zkey, 15) else
    if level (rowKey (setAll [k.op, k.ty, k.card] (level k) p) k.ver) ≠ level k + p.length then (zkey, 2) else (rowKey (setAll [k.op, k.ty, k.card] (level k) p) k.ver, 0)
def refFrom (k a : Key) : Bool := !(decide (level a < 0) || decide (level k < level a) || decide (k.ver ≠ a.ver)) && (decide (level a < 1) || decide (k.op = a.op)) && (decide (level a < 2) || decide (k.ty = a.ty)) && (decide (level a < 3) || decide (k.card = a.card))


def T_keys_Parent : TT := [(3, ⟨.int .i64, 1, 8, [.int .i64 0], some .int⟩),
  (4, ⟨.bool, 1, 1, [.bool false], some .bool⟩),
  (23, ⟨.strct [(0, 3), (1, 3), (2, 3), (3, 3)], 4, 32, [.int .i64 0, .int .i64 0, .int .i64 0, .int .i64 0], some .key⟩),
  (27, ⟨.int .i64, 1, 8, [.int .i64 0], none⟩)]
theorem tOk_keys_Parent : TOk Try.prog T_keys_Parent := tOk_of (by kernel_rfl)
def sp_keys_Parent : Spec := fun args hp => match args, hp with
  | [.agg k_cs], [] => (match decS .key k_cs with
    | some k => .ok (.tup [svKey (parent k).1, iv (parent k).2]) []
    | none => .fail "struct")
  | _, _ => .fail "keys_Parent"
abbrev k_keys_Parent : List (Option RK) := [none]
def a_keys_Parent : List SV → List (Nat × VB) → Anns := fun _ _ => []
set_option maxHeartbeats 20000000 in
theorem ok_keys_Parent : GOk Try.prog 18 (lift k_keys_Parent sp_keys_Parent) := by
  refine pf_ok (T := T_keys_Parent) (Γ := (23, lift k_keys_Level sp_keys_Level) :: (60, lift k_keys_at sp_keys_at) :: []) tOk_keys_Parent (gOks_cons ok_keys_Level (gOks_cons ok_keys_at (gOks_nil _))) mixed Try.func18 (c := body Try.f18) (by kernel_rfl) (by kernel_rfl) k_keys_Parent sp_keys_Parent (by kernel_rfl) (by kernel_rfl) a_keys_Parent ?_
  intro args hp s u hfit h
  unfold sp_keys_Parent at h
  split at h
  · rename_i k_cs
    split at h
    case h_2 => exact h.fail.elim
    rename_i k h_k
    obtain rfl := decS_ok (k := .key) rfl h_k
    clear h_k
    change Key at k
    obtain ⟨rfl, rfl⟩ := h.ok
    clear h hfit
    conv => whnf
    repeat' (first
      | (refine And.intro ?_ ?_ <;> try conv => whnf)
      | (intro hh; first | (cases hh; done) | conv => whnf))
    all_goals try first | rfl | kernel_rfl
    all_goals try simp only [Key_eta, Share_eta, Journey_eta, Batch_eta, FieldT_eta, OpB_eta, Product_eta, Key_beq, Share_beq, Journey_beq, FieldT_beq, Product_beq, toNat0, toNat1, toNat2, toNat3, toNat4, toNat5, toNat6, toNat7, toNat8, toNat9, toNat10, toNat11, toNat12, toNat13, toNat14, toNat15, toNat16, toNat17, toNat18, toNat19, iA, iOf, atS, zK, true_and, and_true, decide_eq_true_eq, decide_eq_false_iff_not, beq_iff_eq, bne_iff_ne, beq_eq_false_iff_ne, bne_eq_false_iff_eq, Bool.not_eq_true', Bool.not_eq_false', Bool.not_eq_true, Bool.not_eq_false, Nat.succ_eq_add_one, Int.not_lt, Int.not_le, gt_iff_lt, ge_iff_le] at *
    all_goals have hr := level_range k
    all_goals try simp (disch := omega) only [wrap64] at *
    all_goals (refine ⟨?_⟩; unfold parent; (repeat' split) <;> first | omega | simp [zkey])
  · exact h.fail.elim

def T_keys_From : TT := [(3, ⟨.int .i64, 1, 8, [.int .i64 0], some .int⟩),
  (4, ⟨.bool, 1, 1, [.bool false], some .bool⟩),
  (23, ⟨.strct [(0, 3), (1, 3), (2, 3), (3, 3)], 4, 32, [.int .i64 0, .int .i64 0, .int .i64 0, .int .i64 0], some .key⟩),
  (25, ⟨.slice 23, 1, 24, [.slice none 0 0], none⟩),
  (27, ⟨.int .i64, 1, 8, [.int .i64 0], none⟩)]
theorem tOk_keys_From : TOk Try.prog T_keys_From := tOk_of (by kernel_rfl)
def sp_keys_From : Spec := fun args hp => match args, hp with
  | [.agg k_cs, .slF 0], [(0, .row o_above .key above)] => (match decS .key k_cs with
    | some k => .vc (above.length ≤ 1099511627776) (bv (fromK k above)) []
    | none => .fail "struct")
  | _, _ => .fail "keys_From"
abbrev k_keys_From : List (Option RK) := [none, some .key]
def a_keys_From : List SV → List (Nat × VB) → Anns := fun args hp => match args, hp with
  | [.agg k_cs, .slF 0], [(0, .row o_above .key above)] => (match decS .key k_cs with
    | some k => [(4, fun S => .inv [] [] fun ids vs => { cars := [.i 14 .i64], inv := fun ((i, _) : Int × Unit) => ∃ j : Nat, j ≤ above.length ∧ i = j ∧ right k = true ∧ (above.drop j).all (fun a => anc (level k).toNat k a) = above.all (fun a => anc (level k).toNat k a), mu := fun ((i, _) : Int × Unit) => above.length - i.toNat }),
    (7, fun S => .inv [] [S.get 14] fun ids vs => { cars := [.p 7 [.st .key]], inv := fun (((x, _), _) : (Key × Unit) × Unit) => ∃ n : Nat, level x = n ∧ anc n x (above.getD ((iA vs 0)).toNat zkey) = anc (level k).toNat k (above.getD ((iA vs 0)).toNat zkey), mu := fun (((x, _), _) : (Key × Unit) × Unit) => (level x).toNat })]
    | none => [])
  | _, _ => []
set_option maxHeartbeats 20000000 in
theorem ok_keys_From : GOk Try.prog 25 (lift k_keys_From sp_keys_From) := by
  refine pf_ok (T := T_keys_From) (Γ := (22, lift k_keys_Right sp_keys_Right) :: (18, lift k_keys_Parent sp_keys_Parent) :: []) tOk_keys_From (gOks_cons ok_keys_Right (gOks_cons ok_keys_Parent (gOks_nil _))) mixed Try.func25 (c := body Try.f25) (by kernel_rfl) (by kernel_rfl) k_keys_From sp_keys_From (by kernel_rfl) (by kernel_rfl) a_keys_From ?_
  intro args hp s u hfit h
  unfold sp_keys_From at h
  split at h
  · rename_i k_cs o_above above
    split at h
    case h_2 => exact h.fail.elim
    rename_i k h_k
    obtain rfl := decS_ok (k := .key) rfl h_k
    clear h_k
    change Key at k
    obtain ⟨hvc, rfl, rfl⟩ := h.vc
    clear h hfit
    change List Key at above
    conv => whnf
    repeat' (first
      | (refine And.intro ?_ ?_ <;> try conv => whnf)
      | (intro hh; first | (cases hh; done) | conv => whnf))
    all_goals try first | rfl | kernel_rfl
    all_goals try simp only [Key_eta, Share_eta, Journey_eta, Batch_eta, FieldT_eta, OpB_eta, Product_eta, Key_beq, Share_beq, Journey_beq, FieldT_beq, Product_beq, toNat0, toNat1, toNat2, toNat3, toNat4, toNat5, toNat6, toNat7, toNat8, toNat9, toNat10, toNat11, toNat12, toNat13, toNat14, toNat15, toNat16, toNat17, toNat18, toNat19, iA, iOf, atS, zK, true_and, and_true, decide_eq_true_eq, decide_eq_false_iff_not, beq_iff_eq, bne_iff_ne, beq_eq_false_iff_ne, bne_eq_false_iff_eq, Bool.not_eq_true', Bool.not_eq_false', Bool.not_eq_true, Bool.not_eq_false, Nat.succ_eq_add_one, Int.not_lt, Int.not_le, gt_iff_lt, ge_iff_le, zkey] at *
    · (refine ⟨?_⟩; simp [fromK, *])
    · exact ⟨⟨0, Nat.zero_le _, rfl, ‹_›, by simp⟩⟩
    · obtain ⟨j, hj, rfl, hr, ha⟩ := ‹∃ j : Nat, j ≤ _ ∧ _ = _ ∧ _ ∧ _›
      have hk := level_right.2 hr
      try simp (disch := omega) only [wrap64, Int.toNat_natCast] at *
      exact ⟨by omega⟩
    · obtain ⟨j, hj, rfl, hr, ha⟩ := ‹∃ j : Nat, j ≤ _ ∧ _ = _ ∧ _ ∧ _›
      have hk := level_right.2 hr
      try simp (disch := omega) only [wrap64, Int.toNat_natCast] at *
      exact ⟨by omega⟩
    · obtain ⟨j, hj, rfl, hr, ha⟩ := ‹∃ j : Nat, j ≤ _ ∧ _ = _ ∧ _ ∧ _›
      have hk := level_right.2 hr
      try simp (disch := omega) only [wrap64, Int.toNat_natCast] at *
      exact ⟨⟨(level k).toNat, by omega, rfl⟩⟩
    · obtain ⟨j, hj, rfl, hr, ha⟩ := ‹∃ j : Nat, j ≤ _ ∧ _ = _ ∧ _ ∧ _›
      have hk := level_right.2 hr
      try simp (disch := omega) only [wrap64, Int.toNat_natCast] at *
      obtain ⟨n, hn, hc⟩ := ‹∃ n : Nat, level _ = _ ∧ _›
      rcases n with _ | n
      · refine ⟨(from_false (j := j) (by omega) (hc.symm.trans ?_)).symm⟩
        exact decide_eq_false ‹_›
      · exfalso; have hp := parent_up hn; exact ‹(parent _).2 ≠ 0› (by rw [hp])
    · obtain ⟨j, hj, rfl, hr, ha⟩ := ‹∃ j : Nat, j ≤ _ ∧ _ = _ ∧ _ ∧ _›
      have hk := level_right.2 hr
      try simp (disch := omega) only [wrap64, Int.toNat_natCast] at *
      obtain ⟨n, hn, hc⟩ := ‹∃ n : Nat, level _ = _ ∧ _›
      rcases n with _ | n
      · exfalso; have hp := parent_top hn; omega
      · have hp := parent_up hn
        have hl := level_up hn
        rw [hp] at *
        refine ⟨⟨n, hl, ?_⟩, by simp only; omega⟩
        rw [← hc]
        simp only [anc]
        rw [decide_eq_false ‹¬ _ = above.getD j _›, Bool.false_or]
    · obtain ⟨j, hj, rfl, hr, ha⟩ := ‹∃ j : Nat, j ≤ _ ∧ _ = _ ∧ _ ∧ _›
      have hk := level_right.2 hr
      try simp (disch := omega) only [wrap64, Int.toNat_natCast] at *
      obtain ⟨n, hn, hc⟩ := ‹∃ n : Nat, level _ = _ ∧ _›
      refine ⟨⟨j + 1, by omega, by omega, hr, ?_⟩, by omega⟩
      rw [← ha]
      refine (all_step (by omega) ?_).symm
      have he : _ = above.getD j ⟨0, 0, 0, 0⟩ := ‹_›
      rw [← hc, ← he]
      exact anc_self _ _
    · obtain ⟨j, hj, rfl, hr, ha⟩ := ‹∃ j : Nat, j ≤ _ ∧ _ = _ ∧ _ ∧ _›
      have hk := level_right.2 hr
      try simp (disch := omega) only [wrap64, Int.toNat_natCast] at *
      obtain rfl : j = above.length := by omega
      refine ⟨?_⟩
      unfold fromK
      rw [← ha, hr]
      simp
  · exact h.fail.elim

def T_keys_Roll : TT := [(3, ⟨.int .i64, 1, 8, [.int .i64 0], some .int⟩),
  (4, ⟨.bool, 1, 1, [.bool false], some .bool⟩),
  (23, ⟨.strct [(0, 3), (1, 3), (2, 3), (3, 3)], 4, 32, [.int .i64 0, .int .i64 0, .int .i64 0, .int .i64 0], some .key⟩),
  (27, ⟨.int .i64, 1, 8, [.int .i64 0], none⟩)]
theorem tOk_keys_Roll : TOk Try.prog T_keys_Roll := tOk_of (by kernel_rfl)
def sp_keys_Roll : Spec := fun args hp => match args, hp with
  | [.agg k_cs], [] => (match decS .key k_cs with
    | some k => .ok (.tup [svKey (roll k).1, iv (roll k).2]) []
    | none => .fail "struct")
  | _, _ => .fail "keys_Roll"
abbrev k_keys_Roll : List (Option RK) := [none]
def a_keys_Roll : List SV → List (Nat × VB) → Anns := fun _ _ => []
set_option maxHeartbeats 20000000 in
theorem ok_keys_Roll : GOk Try.prog 26 (lift k_keys_Roll sp_keys_Roll) := by
  refine pf_ok (T := T_keys_Roll) (Γ := (22, lift k_keys_Right sp_keys_Right) :: []) tOk_keys_Roll (gOks_cons ok_keys_Right (gOks_nil _)) mixed Try.func26 (c := body Try.f26) (by kernel_rfl) (by kernel_rfl) k_keys_Roll sp_keys_Roll (by kernel_rfl) (by kernel_rfl) a_keys_Roll ?_
  intro args hp s u hfit h
  unfold sp_keys_Roll at h
  split at h
  · rename_i k_cs
    split at h
    case h_2 => exact h.fail.elim
    rename_i k h_k
    obtain rfl := decS_ok (k := .key) rfl h_k
    clear h_k
    change Key at k
    obtain ⟨rfl, rfl⟩ := h.ok
    clear h hfit
    conv => whnf
    repeat' (first
      | (refine And.intro ?_ ?_ <;> try conv => whnf)
      | (intro hh; first | (cases hh; done) | conv => whnf))
    all_goals try first | rfl | kernel_rfl
    all_goals try simp only [Key_eta, Share_eta, Journey_eta, Batch_eta, FieldT_eta, OpB_eta, Product_eta, Key_beq, Share_beq, Journey_beq, FieldT_beq, Product_beq, toNat0, toNat1, toNat2, toNat3, toNat4, toNat5, toNat6, toNat7, toNat8, toNat9, toNat10, toNat11, toNat12, toNat13, toNat14, toNat15, toNat16, toNat17, toNat18, toNat19, iA, iOf, atS, zK, true_and, and_true, decide_eq_true_eq, decide_eq_false_iff_not, beq_iff_eq, bne_iff_ne, beq_eq_false_iff_ne, bne_eq_false_iff_eq, Bool.not_eq_true', Bool.not_eq_false', Bool.not_eq_true, Bool.not_eq_false, Nat.succ_eq_add_one, Int.not_lt, Int.not_le, gt_iff_lt, ge_iff_le] at *
    all_goals refine ⟨?_⟩
    all_goals (unfold roll; (repeat' split) <;> first | omega | (simp_all [zkey]; done) | (simp_all [right]; rw [wrap64] <;> omega))
  · exact h.fail.elim

def T_keys_Product : TT := [(3, ⟨.int .i64, 1, 8, [.int .i64 0], some .int⟩),
  (4, ⟨.bool, 1, 1, [.bool false], some .bool⟩),
  (23, ⟨.strct [(0, 3), (1, 3), (2, 3), (3, 3)], 4, 32, [.int .i64 0, .int .i64 0, .int .i64 0, .int .i64 0], some .key⟩),
  (27, ⟨.int .i64, 1, 8, [.int .i64 0], none⟩),
  (40, ⟨.int .i64, 1, 8, [.int .i64 0], none⟩),
  (42, ⟨.strct [(0, 40), (1, 3), (2, 3), (3, 3), (4, 3), (5, 3), (6, 3), (7, 3), (8, 4), (9, 3), (10, 3), (11, 3), (12, 3), (13, 4)], 14, 112, [.int .i64 0, .int .i64 0, .int .i64 0, .int .i64 0, .int .i64 0, .int .i64 0, .int .i64 0, .int .i64 0, .bool false, .int .i64 0, .int .i64 0, .int .i64 0, .int .i64 0, .bool false], some .product⟩)]
theorem tOk_keys_Product : TOk Try.prog T_keys_Product := tOk_of (by kernel_rfl)
def sp_keys_Product : Spec := fun args hp => match args, hp with
  | [.agg p_cs], [] => (match decS .product p_cs with
    | some p => .ok (.tup [svKey (product p).1, iv (product p).2]) []
    | none => .fail "struct")
  | _, _ => .fail "keys_Product"
abbrev k_keys_Product : List (Option RK) := [none]
def a_keys_Product : List SV → List (Nat × VB) → Anns := fun _ _ => []
set_option maxHeartbeats 20000000 in
theorem ok_keys_Product : GOk Try.prog 27 (lift k_keys_Product sp_keys_Product) := by
  refine pf_ok (T := T_keys_Product) (Γ := (23, lift k_keys_Level sp_keys_Level) :: []) tOk_keys_Product (gOks_cons ok_keys_Level (gOks_nil _)) mixed Try.func27 (c := body Try.f27) (by kernel_rfl) (by kernel_rfl) k_keys_Product sp_keys_Product (by kernel_rfl) (by kernel_rfl) a_keys_Product ?_
  intro args hp s u hfit h
  unfold sp_keys_Product at h
  split at h
  · rename_i p_cs
    split at h
    case h_2 => exact h.fail.elim
    rename_i p h_p
    obtain rfl := decS_ok (k := .product) rfl h_p
    clear h_p
    change Product at p
    obtain ⟨rfl, rfl⟩ := h.ok
    clear h hfit
    conv => whnf
    repeat' (first
      | (refine And.intro ?_ ?_ <;> try conv => whnf)
      | (intro hh; first | (cases hh; done) | conv => whnf))
    all_goals try first | rfl | kernel_rfl
    all_goals try simp only [Key_eta, Share_eta, Journey_eta, Batch_eta, FieldT_eta, OpB_eta, Product_eta, Key_beq, Share_beq, Journey_beq, FieldT_beq, Product_beq, toNat0, toNat1, toNat2, toNat3, toNat4, toNat5, toNat6, toNat7, toNat8, toNat9, toNat10, toNat11, toNat12, toNat13, toNat14, toNat15, toNat16, toNat17, toNat18, toNat19, iA, iOf, atS, zK, true_and, and_true, decide_eq_true_eq, decide_eq_false_iff_not, beq_iff_eq, bne_iff_ne, beq_eq_false_iff_ne, bne_eq_false_iff_eq, Bool.not_eq_true', Bool.not_eq_false', Bool.not_eq_true, Bool.not_eq_false, Nat.succ_eq_add_one, Int.not_lt, Int.not_le, gt_iff_lt, ge_iff_le] at *
    all_goals (refine ⟨?_⟩; unfold product prodKey; (repeat' split) <;> first | omega | simp_all [zkey])
  · exact h.fail.elim

def T_keys_Batch : TT := [(3, ⟨.int .i64, 1, 8, [.int .i64 0], some .int⟩),
  (4, ⟨.bool, 1, 1, [.bool false], some .bool⟩),
  (23, ⟨.strct [(0, 3), (1, 3), (2, 3), (3, 3)], 4, 32, [.int .i64 0, .int .i64 0, .int .i64 0, .int .i64 0], some .key⟩),
  (27, ⟨.int .i64, 1, 8, [.int .i64 0], none⟩)]
theorem tOk_keys_Batch : TOk Try.prog T_keys_Batch := tOk_of (by kernel_rfl)
def sp_keys_Batch : Spec := fun args hp => match args, hp with
  | [.val (.int .i64 op), .val (.int .i64 ver)], [] => .ok (.tup [svKey (batchK op ver).1, iv (batchK op ver).2]) []
  | _, _ => .fail "keys_Batch"
abbrev k_keys_Batch : List (Option RK) := [none, none]
def a_keys_Batch : List SV → List (Nat × VB) → Anns := fun _ _ => []
set_option maxHeartbeats 20000000 in
theorem ok_keys_Batch : GOk Try.prog 28 (lift k_keys_Batch sp_keys_Batch) := by
  refine pf_ok (T := T_keys_Batch) (Γ := (23, lift k_keys_Level sp_keys_Level) :: []) tOk_keys_Batch (gOks_cons ok_keys_Level (gOks_nil _)) mixed Try.func28 (c := body Try.f28) (by kernel_rfl) (by kernel_rfl) k_keys_Batch sp_keys_Batch (by kernel_rfl) (by kernel_rfl) a_keys_Batch ?_
  intro args hp s u hfit h
  unfold sp_keys_Batch at h
  split at h
  · rename_i op ver
    obtain ⟨rfl, rfl⟩ := h.ok
    clear h hfit
    conv => whnf
    repeat' (first
      | (refine And.intro ?_ ?_ <;> try conv => whnf)
      | (intro hh; first | (cases hh; done) | conv => whnf))
    all_goals try first | rfl | kernel_rfl
    all_goals try simp only [Key_eta, Share_eta, Journey_eta, Batch_eta, FieldT_eta, OpB_eta, Product_eta, Key_beq, Share_beq, Journey_beq, FieldT_beq, Product_beq, toNat0, toNat1, toNat2, toNat3, toNat4, toNat5, toNat6, toNat7, toNat8, toNat9, toNat10, toNat11, toNat12, toNat13, toNat14, toNat15, toNat16, toNat17, toNat18, toNat19, iA, iOf, atS, zK, true_and, and_true, decide_eq_true_eq, decide_eq_false_iff_not, beq_iff_eq, bne_iff_ne, beq_eq_false_iff_ne, bne_eq_false_iff_eq, Bool.not_eq_true', Bool.not_eq_false', Bool.not_eq_true, Bool.not_eq_false, Nat.succ_eq_add_one, Int.not_lt, Int.not_le, gt_iff_lt, ge_iff_le] at *
    all_goals (refine ⟨?_⟩; unfold batchK; (repeat' split) <;> first | omega | simp_all [zkey])
  · exact h.fail.elim

end Go.Proofs.Ytncdakkigkmfjaa.Sx
