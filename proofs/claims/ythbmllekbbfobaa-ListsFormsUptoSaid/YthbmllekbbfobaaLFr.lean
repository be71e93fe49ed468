import Derived.Test.YthbmllekbbfobaaProg
import Derived.Test.YthbmllekbbfobaaSxU
import Derived.IntWalk
import Derived.Test.YthbmllekbbfobaaL9
/-! ListsForms -/
namespace Go.Proofs.Ythbmllekbbfobaa.Sx
open Go
set_option linter.unusedVariables false
set_option linter.unusedSimpArgs false
set_option maxRecDepth 100000

theorem renOk_of {sig : List Nat} {key : Nat} {nu : List (Nat × Option VB)} {s : SV} {u : List (Nat × Option VB)} {c : SV → List (Nat × Option VB) → R} (h1 : okNew sig s.ids = true) (h2 : okNew sig (idsU u) = true)
    (hc : ∀ s u, Holds (c s u) s u) : Holds (renOk sig key nu s u c) (s.ren (gN sig key)) (renU (gN sig key) u ++ nu) := by
  unfold renOk; rw [h1, h2]; exact hc _ _
theorem renR_of {sig : List Nat} {key : Nat} {nu : List (Nat × Option VB)} {s : SV} {u : List (Nat × Option VB)} (h1 : okNew sig s.ids = true) (h2 : okNew sig (idsU u) = true) : ∀ {r : R}, Holds r s u → Holds (renR sig key nu r) (s.ren (gN sig key)) (renU (gN sig key) u ++ nu)
  | .ok s' u', h => by
    obtain ⟨rfl, rfl⟩ := h.ok
    exact show Holds (renOk sig key nu _ _ .ok) _ _ from renOk_of h1 h2 fun s u => .mk s u
  | .vc d s' u', h => by
    obtain ⟨hd, rfl, rfl⟩ := h.vc
    exact show Holds (renOk sig key nu _ _ (.vc d)) _ _ from renOk_of h1 h2 fun s u => .mkVc d s u hd
  | .br t a b, h => by
    rcases h.br with ⟨ht, h⟩ | ⟨ht, h⟩
    · exact Holds.yes t (renR sig key nu a) (renR sig key nu b) _ _ ht (renR_of h1 h2 h)
    · exact Holds.no t (renR sig key nu a) (renR sig key nu b) _ _ ht (renR_of h1 h2 h)
  | .fail w, h => h.fail.elim
theorem lift_weak {ks : List (Option RK)} {sp sp' : Spec} (hsp : ∀ args hp s u, Holds (sp' args hp) s u → Holds (sp args hp) s u) {args : List SV} {H : VH} {key : Nat} {s : SV} {u : List (Nat × Option VB)} (h : Holds (lift ks sp' args H key) s u) : Holds (lift ks sp args H key) s u := by
  unfold lift at h ⊢
  rw [fL_eq] at h ⊢
  obtain ⟨args1, nu, hnil⟩ : ∃ args1 nu, nilCs ks args (key + 50) = (args1, nu) := ⟨_, _, rfl⟩
  rw [hnil] at h ⊢
  simp only [fL_eq, fNs_eq] at h ⊢
  generalize collect (upd nu H) 400 (idsL args1) [] = sig at h ⊢
  cases hchk : (okSig (upd nu H) args1 key sig && (Nat.beq (lenN args) (lenN ks) && Nat.ble (lenN ks) 13)) with
  | false => rw [hchk] at h; exact h.fail.elim
  | true =>
  rw [hchk] at h
  simp only [cond_true] at h ⊢
  obtain ⟨s0, u0, h0, hnew1, hnew2, rfl, rfl⟩ := renR_ok h
  exact renR_of hnew1 hnew2 (hsp _ _ _ _ h0)
theorem GOk.weak {P : Program} {f : FuncId} {ks : List (Option RK)} {sp sp' : Spec} (g : GOk P f (lift ks sp)) (hsp : ∀ args hp s u, Holds (sp' args hp) s u → Holds (sp args hp) s u) : GOk P f (lift ks sp') :=
  ⟨g.fn, fun args H key s u h => g.calls args H key s u (lift_weak hsp h)⟩
theorem Holds.vcOf {c : Prop} {s s' : SV} {u u' : List (Nat × Option VB)} (h : c) (hs : s' = s) (hu : u' = u) : Holds (.vc c s' u') s u := by
  subst hs; subst hu; exact .mkVc _ _ _ h
theorem putDE_cases (to : Int) (a f : List Item) : putDE to a f = 0 ∨ putDE to a f = 2 ∨ putDE to a f = 11 := by
  unfold putDE; split
  · simp
  · split
    · simp
    · split <;> simp


abbrev k_lists_Putq : List (Option RK) := k_lists_Put
def sp_lists_Putq : Spec := fun args hp => match args, hp with
  | [.agg [.val (.int .i64 to), .slF 0, .slF 1]], [(0, .row _ .item add), (1, .row _ .item off)] => .br (decide (putDE to add off = 0)) (.vc (add.length ≤ 1048576 ∧ off.length ≤ 1048576) (.tup [.slF 2000, iv 0]) [(2000, some (.row true .u8 (putD to add off)))])
      (.br (decide (putDE to add off = 2)) (.vc (add.length ≤ 1048576 ∧ off.length ≤ 1048576) (.tup [.slF 2000, iv 2]) [(2000, some (.row true .u8 []))]) (.vc (add.length ≤ 1048576 ∧ off.length ≤ 1048576) (.tup [.slF 2000, iv 11]) [(2000, some (.row true .u8 []))]))
  | _, _ => .fail "lists_Putq"
theorem ok_lists_Putq : GOk Try.prog 15 (lift k_lists_Putq sp_lists_Putq) := by
  refine GOk.weak ok_lists_Put fun args hp s u h => ?_
  unfold sp_lists_Putq at h
  split at h
  · rename_i to o_a add o_o off
    show Holds (.vc _ _ _) _ _
    rcases h.br with ⟨hb, h⟩ | ⟨hb, h⟩
    · obtain ⟨hc, rfl, rfl⟩ := h.vc
      have hb := of_decide_eq_true hb
      exact Holds.vcOf hc (by show SV.tup [.slF 2000, iv (putDE to add off)] = _; rw [hb]) rfl
    · have hb := of_decide_eq_false hb
      rcases h.br with ⟨h2, h⟩ | ⟨h2, h⟩
      · obtain ⟨hc, rfl, rfl⟩ := h.vc
        have h2 := of_decide_eq_true h2
        exact Holds.vcOf hc (by show SV.tup [.slF 2000, iv (putDE to add off)] = _; rw [h2]) (by show [(2000, some (VB.row true .u8 (putD to add off)))] = _; rw [putD_no hb])
      · obtain ⟨hc, rfl, rfl⟩ := h.vc
        have h2 := of_decide_eq_false h2
        have h3 : putDE to add off = 11 := (putDE_cases to add off).elim (fun h => absurd h hb) fun h => h.elim (fun h => absurd h h2) id
        exact Holds.vcOf hc (by show SV.tup [.slF 2000, iv (putDE to add off)] = _; rw [h3]) (by show [(2000, some (VB.row true .u8 (putD to add off)))] = _; rw [putD_no hb])
  · exact h.fail.elim


abbrev k_fareboxref12_Putq : List (Option RK) := k_fareboxref12_Put
def sp_fareboxref12_Putq : Spec := fun args hp => match args, hp with
  | [.val (.int .i64 to), .slF 0, .slF 1], [(0, .row _ .item add), (1, .row _ .item off)] => .br (decide (putDE to add off = 0)) (.vc (add.length ≤ 1048576 ∧ off.length ≤ 1048576) (.tup [.slF 2000, iv 0]) [(2000, some (.row true .u8 (putD to add off)))])
      (.br (decide (putDE to add off = 2)) (.vc (add.length ≤ 1048576 ∧ off.length ≤ 1048576) (.tup [.slF 2000, iv 2]) [(2000, some (.row true .u8 []))]) (.vc (add.length ≤ 1048576 ∧ off.length ≤ 1048576) (.tup [.slF 2000, iv 11]) [(2000, some (.row true .u8 []))]))
  | _, _ => .fail "fareboxref12_Putq"
theorem ok_fareboxref12_Putq : GOk Try.prog 17 (lift k_fareboxref12_Putq sp_fareboxref12_Putq) := by
  refine GOk.weak ok_fareboxref12_Put fun args hp s u h => ?_
  unfold sp_fareboxref12_Putq at h
  split at h
  · rename_i to o_a add o_o off
    show Holds (.vc _ _ _) _ _
    rcases h.br with ⟨hb, h⟩ | ⟨hb, h⟩
    · obtain ⟨hc, rfl, rfl⟩ := h.vc
      have hb := of_decide_eq_true hb
      exact Holds.vcOf hc (by show SV.tup [.slF 2000, iv (putDE to add off)] = _; rw [hb]) rfl
    · have hb := of_decide_eq_false hb
      rcases h.br with ⟨h2, h⟩ | ⟨h2, h⟩
      · obtain ⟨hc, rfl, rfl⟩ := h.vc
        have h2 := of_decide_eq_true h2
        exact Holds.vcOf hc (by show SV.tup [.slF 2000, iv (putDE to add off)] = _; rw [h2]) (by show [(2000, some (VB.row true .u8 (putD to add off)))] = _; rw [putD_no hb])
      · obtain ⟨hc, rfl, rfl⟩ := h.vc
        have h2 := of_decide_eq_false h2
        have h3 : putDE to add off = 11 := (putDE_cases to add off).elim (fun h => absurd h hb) fun h => h.elim (fun h => absurd h h2) id
        exact Holds.vcOf hc (by show SV.tup [.slF 2000, iv (putDE to add off)] = _; rw [h3]) (by show [(2000, some (VB.row true .u8 (putD to add off)))] = _; rw [putD_no hb])
  · exact h.fail.elim


abbrev k_lists_Getq : List (Option RK) := k_lists_Get
def sp_lists_Getq : Spec := fun args hp => match args, hp with
  | [.slF 0], [(0, .row _ .u8 b)] => .br (decide (getDE b = 0)) (.vc (isB b ∧ b.length ≤ 1048576) (.tup [.agg [iv (getD_ b).to, .slF 2000, .slF 2001], iv 0]) [(2000, some (.row true .item (getD_ b).add)), (2001, some (.row true .item (getD_ b).off))])
      (.vc (isB b ∧ b.length ≤ 1048576) (.tup [.agg [iv 0, .slF 2000, .slF 2001], iv (getDE b)]) [(2000, some (.row true .item [])), (2001, some (.row true .item []))])
  | _, _ => .fail "lists_Getq"
theorem ok_lists_Getq : GOk Try.prog 18 (lift k_lists_Getq sp_lists_Getq) := by
  refine GOk.weak ok_lists_Get fun args hp s u h => ?_
  unfold sp_lists_Getq at h
  split at h
  · rename_i o_b b
    show Holds (.vc _ _ _) _ _
    rcases h.br with ⟨hb, h⟩ | ⟨hb, h⟩
    · obtain ⟨hc, rfl, rfl⟩ := h.vc
      have hb := of_decide_eq_true hb
      exact Holds.vcOf hc (by show SV.tup [.agg [iv (getD_ b).to, .slF 2000, .slF 2001], iv (getDE b)] = _; rw [hb]) rfl
    · obtain ⟨hc, rfl, rfl⟩ := h.vc
      have hb := of_decide_eq_false hb
      have e := getD_no hb
      exact Holds.vcOf hc (by show SV.tup [.agg [iv (getD_ b).to, .slF 2000, .slF 2001], iv (getDE b)] = _; rw [e]) (by show [(2000, some (VB.row true .item (getD_ b).add)), (2001, some (VB.row true .item (getD_ b).off))] = _; rw [e])
  · exact h.fail.elim


end Go.Proofs.Ythbmllekbbfobaa.Sx
