import Derived.Test.YthbmllekbbfobaaR2
import Derived.Shelf.Spec.SlicesInsert
namespace Go.Proofs.Ythbmllekbbfobaa.Sx
open Go Go.RowKit Go.Shelf Go.Lib
set_option linter.unusedVariables false
set_option linter.unusedSimpArgs false
attribute [local go_sem] Oper.semAt_some
set_option maxHeartbeats 4000000 in
set_option maxRecDepth 100000 in
theorem ins_end (n c vc : Nat) (a : Option Addr) (va : Addr) (W W' : World) (v : Value) (hn : a = none → n = 0 ∧ c = 0) (hrun : (Builtin.append_ #[95, 95] 95 #[.slice a n c, .slice (some va) 1 vc]).run Try.prog W = .ok v W') :
    Calls Try.prog 103 #[.slice a n c, .int .i64 n, .slice (some va) 1 vc] W fun e w => e = .returned v ∧ w = W' := by
  go_enter Try.func103, Try.ntmps103
  cases a with
  | none =>
    obtain ⟨rfl, rfl⟩ := hn rfl
    go_wp2_with (at_builtin; refine Lib.wpList_append_run _ rfl _ _ _ _ rfl _ _ rfl rfl _ _ hrun ?_)
    all_goals (go_ret; exact ⟨rfl, rfl⟩)
  | some a =>
    obtain ⟨ab, ao, asp⟩ := a
    go_wp2_with (at_builtin; refine Lib.wpList_append_run _ rfl _ _ _ _ rfl _ _ rfl rfl _ _ hrun ?_)
    all_goals (go_ret; exact ⟨rfl, rfl⟩)
set_option maxHeartbeats 4000000 in
set_option maxRecDepth 100000 in
theorem ins_grow (n c i vc ab bb C : Nat) (va : Addr) (W W1 W2 W3 : World) (v2 v3 : Value) (hi : i < n) (hc : n ≤ c) (hr : c < n + 1) (h63 : n ≤ 1099511627776)
    (h1 : (Builtin.append_ #[95, 3] 95 #[.slice (some ⟨ab, 0, none⟩) i c, .int .i64 (n + 1 - i)]).run Try.prog W = .ok (.slice (some ⟨bb, 0, none⟩) (n + 1) C) W1) (hC : n + 1 ≤ C)
    (h2 : (Builtin.copy_ #[95, 95] 3 #[.slice (some ⟨bb, i * 3, none⟩) (n + 1 - i) (C - i), .slice (some va) 1 vc]).run Try.prog W1 = .ok v2 W2)
    (h3 : (Builtin.copy_ #[95, 95] 3 #[.slice (some ⟨bb, (i + 1) * 3, none⟩) (n - i) (C - (i + 1)), .slice (some ⟨ab, i * 3, none⟩) (n - i) (c - i)]).run Try.prog W2.drew = .ok v3 W3) :
    Calls Try.prog 103 #[.slice (some ⟨ab, 0, none⟩) n c, .int .i64 i, .slice (some va) 1 vc] W fun e w => e = .returned (.slice (some ⟨bb, 0, none⟩) (n + 1) C) ∧ w = W3 := by
  have hz1 : ¬ ((i : Int) = (n : Int)) := by omega
  have hw1 : IntKind.i64.wrap ((n : Int) + 1) = (n : Int) + 1 := by rw [IntKind.wrap_i64]; omega
  have hw2 : IntKind.i64.wrap ((n : Int) + 1 - i) = (n : Int) + 1 - i := by rw [IntKind.wrap_i64]; omega
  have hw3 : IntKind.i64.wrap ((i : Int) + 1) = (i : Int) + 1 := by rw [IntKind.wrap_i64]; omega
  have hin : i ≤ n := by omega
  have hic : i ≤ c := by omega
  have hb1 : (0 : Int) ≤ (i : Int) + 1 := by omega
  have htn : ((i : Int) + 1).toNat = i + 1 := by omega
  have hb2 : ¬ (C = i + 1) := by omega
  have hb3 : (i : Int) + 1 ≤ (n : Int) + 1 := by omega
  have hb4 : ¬ (c = i) := by omega
  have hb5 : n + 1 - (i + 1) = n - i := by omega
  have mixed : Try.prog.follows .mixedOrders = true := by kernel_rfl
  go_enter Try.func103, Try.ntmps103
  go_wp2_with (at_builtin; first | (refine Lib.wpList_append_run _ rfl _ _ _ _ rfl _ _ rfl rfl _ _ h1 ?_) | (refine wpList_copy_runI _ rfl _ _ 95 95 rfl _ _ rfl rfl h2 ?_))
  go_region_law_o (refine step_copy_runI rfl _ _ 95 95 rfl _ _ (by simp [Act.eval, Act.put]) (by simp [Act.eval, Act.put]) h3 ?_)
  go_wp2
  go_ret
  exact ⟨rfl, rfl⟩
set_option maxHeartbeats 4000000 in
set_option maxRecDepth 100000 in
theorem ins_room (n c i vc ab : Nat) (va : Addr) (W W1 W2 : World) (v1 v2 : Value) (hi : i < n) (hr : n + 1 ≤ c) (h63 : n ≤ 1099511627776)
    (hov : ∀ lb cb, (callFunc 136 #[.slice (some va) 1 vc, .slice (some ⟨ab, (i + 1) * 3, none⟩) lb cb]).run Try.prog W = .ok (.value (.bool false)) W)
    (h1 : (Builtin.copy_ #[95, 95] 3 #[.slice (some ⟨ab, (i + 1) * 3, none⟩) (n - i) (c - (i + 1)), .slice (some ⟨ab, i * 3, none⟩) (n + 1 - i) (c - i)]).run Try.prog W.drew = .ok v1 W1)
    (h2 : (Builtin.copy_ #[95, 95] 3 #[.slice (some ⟨ab, i * 3, none⟩) (n + 1 - i) (c - i), .slice (some va) 1 vc]).run Try.prog W1 = .ok v2 W2) :
    Calls Try.prog 103 #[.slice (some ⟨ab, 0, none⟩) n c, .int .i64 i, .slice (some va) 1 vc] W fun e w => e = .returned (.slice (some ⟨ab, 0, none⟩) (n + 1) c) ∧ w = W2 := by
  have hz1 : ¬ ((i : Int) = (n : Int)) := by omega
  have hw1 : IntKind.i64.wrap ((n : Int) + 1) = (n : Int) + 1 := by rw [IntKind.wrap_i64]; omega
  have hw3 : IntKind.i64.wrap ((i : Int) + 1) = (i : Int) + 1 := by rw [IntKind.wrap_i64]; omega
  have hin : i ≤ n := by omega
  have hb1 : (0 : Int) ≤ (i : Int) + 1 := by omega
  have htn : ((i : Int) + 1).toNat = i + 1 := by omega
  have htm : ((n : Int) + 1).toNat = n + 1 := by omega
  have hb2 : ¬ (c = i + 1) := by omega
  have hb3 : (i : Int) + 1 ≤ (n : Int) + 1 := by omega
  have hb4 : ¬ (c = i) := by omega
  have hb5 : n + 1 - (i + 1) = n - i := by omega
  have hb6 : ((n : Int) + 1) ≤ c := by omega
  have hb7 : ((i : Int)) ≤ (n : Int) + 1 := by omega
  have mixed : Try.prog.follows .mixedOrders = true := by kernel_rfl
  go_enter Try.func103, Try.ntmps103
  go_wp2_with (simp only [hov])
  go_region_law_o (refine step_copy_runI rfl _ _ 95 95 rfl _ _ (by simp [Act.eval, Act.put]) (by simp [Act.eval, Act.put]) h1 ?_)
  go_wp2_with (at_builtin; refine wpList_copy_runI _ rfl _ _ 95 95 rfl _ _ rfl rfl h2 ?_)
  go_ret
  exact ⟨rfl, rfl⟩

abbrev TI103 : TT := T_slices_BinarySearchFunc_api_Rule_api_Rule_api_Rule
def gcIns : GC := fun args H key => match args with
  | [.slF b, .val (.int .i64 i), .slF c] => match H b with
    | some (.row true .rule xs) => match H c with
      | some (.row true .rule vs) => bif Nat.beq b c then .fail "insert: of itself" else
          .vc (0 ≤ i ∧ i ≤ xs.length ∧ vs.length = 1 ∧ xs.length ≤ 1048576) (.slF key) [(key, some (.row true .rule (xs.take i.toNat ++ vs ++ xs.drop i.toNat))), (b, none)]
      | _ => .fail "insert: what?"
    | _ => .fail "insert: into what?"
  | _ => .fail "insert"
theorem evA {b c key : Nat} {H : VH} {xs vs : List Rule} (hb : H b = some (.row true .rule xs)) (hv : H c = some (.row true .rule vs)) :
    evAppend TI103 95 (.slF b) (.slF c) H key = .vc ((xs.length + vs.length) * 40 ≤ 140737488355328) (.slF key) [(key, some (.row true .rule (xs ++ vs))), (b, none)] := by
  have e1 : kindS TI103 95 = some .rule := rfl
  have e2 : sliceOf H (.slF c) = some ⟨.rule, vs⟩ := by unfold sliceOf; simp only [hv]
  have e3 : bytesS TI103 95 = 40 := rfl
  unfold evAppend
  simp only [e1, e2]
  unfold appTo
  simp only [hb]
  unfold appFin
  rw [e3]
  rfl
theorem evC {b i n : Nat} {H : VH} {x : SV} {xs vs : List Rule} (hb : H b = some (.row true .rule xs)) (e2 : sliceOf H x = some ⟨.rule, vs⟩) :
    evCopy TI103 95 (.slP b i n) x H = .ok (.val (.int .i64 ((min vs.length n : Nat) : Int))) [(b, some (.row true .rule (splice xs i (vs.take n))))] := by
  have e1 : kindS TI103 95 = some .rule := rfl
  unfold evCopy
  simp only [e1, e2]
  show (match H b with
    | some (.row true k' xs) => _
    | _ => _) = _
  rw [hb]
  rfl
theorem Step.drew {m : Nat → Place} {Imm : Nat → Prop} {H : VH} {w : World} (hR : Rel m Imm H w) (key : Nat) : Step m Imm H w m Imm H w.drew key :=
  ⟨⟨fun b vb h => (hR.hold b vb h).stays (fun _ h => h) (fun _ _ => rfl) (fun _ => rfl) (fun _ _ _ _ => rfl), hR.dist, hR.apart, hR.imm⟩, fun _ _ => rfl, fun _ h => h, fun _ h => .inl h, fun b vb e o => .inr ⟨b, vb, e, o, rfl⟩, fun _ _ _ => rfl, drew_calm w⟩
theorem ins_list {xs zs vs : List Rule} {i : Nat} (hi : i ≤ xs.length) (hz : zs.length = xs.length + 1 - i) (hv : vs.length = 1) :
    splice (splice (xs.take i ++ zs) i (vs.take (xs.length + 1 - i))) (i + 1) (((xs.drop i).take (xs.length - i)).take (xs.length - i)) = xs.take i ++ vs ++ xs.drop i := by
  have e1 : vs.take (xs.length + 1 - i) = vs := List.take_of_length_le (by omega)
  have e2 : ((xs.drop i).take (xs.length - i)).take (xs.length - i) = xs.drop i := by rw [List.take_of_length_le (by simp), List.take_of_length_le (by simp)]
  have ht : (xs.take i).length = i := by rw [List.length_take]; omega
  rw [e1, e2]
  have e3 : splice (xs.take i ++ zs) i vs = (xs.take i ++ vs) ++ zs.drop 1 := by
    unfold splice
    rw [List.take_left' ht, List.drop_append, ht, hv, List.drop_eq_nil_of_le (by omega), List.nil_append, Nat.add_sub_cancel_left]
  rw [e3]
  have h2 : (xs.take i ++ vs).length = i + 1 := by rw [List.length_append, ht, hv]
  unfold splice
  have e4 : (xs.take i ++ vs ++ zs.drop 1).drop (i + 1 + (xs.drop i).length) = [] := List.drop_eq_nil_of_le (by rw [List.length_append, h2, List.length_drop, List.length_drop]; omega)
  rw [List.take_left' h2, e4, List.append_nil]

variable {m : Nat → Place} {Imm : Nat → Prop} {H : VH} {w : World} {key b c i : Nat} {xs vs : List Rule} {x y : Value}
def InsPost (m : Nat → Place) (Imm : Nat → Prop) (H : VH) (w : World) (key b : Nat) (l : List Rule) (e : Ending) (w' : World) : Prop :=
  ∃ m' Imm' v, e = .returned v ∧ V m' (.slF key) v ∧ Step m Imm H w m' Imm' (upd [(key, some (.row true .rule l)), (b, none)] H) w' key
theorem does_end (hR : Rel m Imm H w) (hc : Clean key H) (hx : V m (.slF b) x) (hy : V m (.slF c) y) (hb : H b = some (.row true .rule xs)) (hv : H c = some (.row true .rule vs)) (h1 : vs.length = 1) (hL : xs.length ≤ 1048576) :
    Calls Try.prog 103 #[x, .int .i64 xs.length, y] w fun e w' => InsPost m Imm H w key b (xs.take xs.length ++ vs ++ xs.drop xs.length) e w' := by
  obtain ⟨v, w', m', Imm', hrun, hV, hst⟩ := does_append (ty := 95) tOk_slices_BinarySearchFunc_api_Rule_api_Rule_api_Rule hR hc hx hy (by rw [evA hb hv]; exact .mkVc _ _ _ (by omega))
  obtain ⟨p1, p2, p3, p4, p5, _⟩ := hR.hold b _ hb
  obtain ⟨q1, q2, q3, q4, q5, _⟩ := hR.hold c _ hv
  obtain ⟨a, cp, rfl, g1, g2⟩ := hx.whole
  obtain ⟨a2, cp2, rfl, g3, g4⟩ := hy.whole
  obtain ⟨rfl, hcc2⟩ := g4 (.inl (by omega))
  rw [q2, h1] at hrun ⊢
  rw [p2] at hrun ⊢
  have hn : a = none → xs.length = 0 ∧ cp = 0 := by
    intro ha
    have : ¬ ((m b).len ≠ 0 ∨ cp ≠ 0) := fun h => by have := (g2 h).1; rw [ha] at this; cases this
    omega
  refine (ins_end xs.length cp cp2 a _ w w' v hn hrun).mono fun e W ⟨he, hW⟩ => ?_
  subst hW
  rw [List.take_length, List.drop_length, List.append_nil]
  exact ⟨m', Imm', v, he, hV, hst⟩

theorem does_copyS {P : Program} {T : TT} {m : Nat → Place} {Imm : Nat → Prop} {H : VH} {w : World} {key : Nat} {s : SV} {u : List (Nat × Option VB)} (hT : TOk P T) {t ty : TypeId} {d x : SV} {vd vx : Value} (hR : Rel m Imm H w) (hd : V m d vd) (hx : V m x vx) (h : Holds (evCopy T t d x H) s u) : ∃ v w', (Builtin.copy_ #[t, t] ty #[vd, vx]).run P w = .ok v w' ∧ V m s v ∧ Step m Imm H w m Imm (upd u H) w' key := by
  unfold evCopy at h
  split at h
  · exact h.fail.elim
  · rename_i k hk
    obtain ⟨e, inf, z, hu, hi, hz, hsz, hb, hzs, hzo⟩ := kindS_ok hT hk
    split at h
    · exact h.fail.elim
    · rename_i k1 ys1 hsl
      split at h
      · exact h.fail.elim
      · rename_i ys hcast
        obtain ⟨rfl, rfl⟩ := castK_some hcast
        simp only at h
        obtain ⟨a', c', rfl, h1, h2⟩ := slice_read hR hx hsl
        -- the first elements of what is copied
        have part : ∀ q, q ≤ ys1.length → ∃ news : List Value, news.length = (ys1.take q).length * sz k1 ∧ (Builtin.firstCells inf.size q (.slice a' ys1.length c')).run P w = .ok news.toArray w ∧
            ∀ (j : Nat) (e : CS), ((ys1.take q).flatMap (enc k1))[j]? = some e → ∃ v, news[j]? = some v ∧ CV Imm w e v := by
          intro q hq
          have hr : ys1.take q ≠ [] → ∃ blk off, a' = some ⟨blk, off, none⟩ ∧ Reads Imm w ⟨blk, off, sz k1, c', (ys1.take q).length⟩ k1 (ys1.take q) := by
            intro hne
            obtain ⟨blk, off, rfl, hr⟩ := h2 (by rintro rfl; simp at hne)
            refine ⟨blk, off, rfl, fun i j e hi' he => ?_⟩
            rw [List.length_take] at hi'
            have : (ys1.take q).getD i (zK k1) = ys1.getD i (zK k1) := by simp [List.getD, show i < q by omega]
            rw [this] at he
            exact hr i j e (by omega) he
          obtain ⟨news, l1, l2, l3, l4⟩ := slice_cells hr
          refine ⟨news, l1, ?_, l4⟩
          cases a' with
          | none =>
            rw [l3 rfl]
            exact run_firstCells_none w inf.size q _ c'
          | some ad => exact run_firstCells_some (P := P) w inf.size q ad _ c' news (by rw [l1, List.length_take, hsz]; congr 1; omega) (l2 _ rfl)
        have none_ : ∀ a n c, min ys1.length n = 0 → (Builtin.copy_ #[t, t] ty #[.slice a n c, .slice a' ys1.length c']).run P w = .ok (.int .i64 ((min ys1.length n : Nat) : Int)) w := by
          intro a n c h0
          obtain ⟨news, l1, l2, _⟩ := part 0 (Nat.zero_le _)
          have hn : news = [] := List.length_eq_zero_iff.1 (by rw [l1]; simp)
          subst hn
          have h0' : Nat.min ys1.length n = 0 := h0
          cases a with
          | none => simp [Builtin.copy_, run_underlying hu, Builtin.lenOf, sizeOf, typeInfo, hi, h0', l2, h0, goInt]
          | some ad => simp [Builtin.copy_, run_underlying hu, Builtin.lenOf, sizeOf, typeInfo, hi, h0', l2, h0, goInt, storeCells]
        have some_ : ∀ {b n off c arr t'} {news : List Value} {q : Nat}, q = min ys1.length n → (Builtin.firstCells inf.size q (.slice a' ys1.length c')).run P w = .ok news.toArray w → w.heap[(m b).blk]? = some (.cells arr t' (0, 0)) → off + news.length ≤ arr.size → (∀ v ∈ news, v.oneCell' = true) →
            (Builtin.copy_ #[t, t] ty #[.slice (some ⟨(m b).blk, off, none⟩) n c, .slice a' ys1.length c']).run P w = .ok (.int .i64 ((min ys1.length n : Nat) : Int)) (w.setRow (m b).blk (splice arr.toList off news).toArray) := by
          intro b n off c arr t' news q hq l2 hh hfit hone
          have hst2 := run_storeCells_at P (m b).blk off t' news 0 arr w hh (by simpa using hfit) hone
          simp only [Nat.add_zero] at hst2
          subst hq
          have l2' : (Builtin.firstCells inf.size (Nat.min ys1.length n) (.slice a' ys1.length c')).run P w = .ok news.toArray w := l2
          simp [Builtin.copy_, run_underlying hu, Builtin.lenOf, sizeOf, typeInfo, hi, l2', hst2, splice, goInt]
        split at h
        · rename_i b
          split at h
          · rename_i k' xs' hb'
            split at h
            · rename_i xs hcast
              obtain ⟨rfl, rfl⟩ := castK_some hcast
              simp only at h hb'
              obtain ⟨rfl, rfl⟩ := h.ok
              obtain ⟨p1, p2, p3, p4, p5, _⟩ := hR.hold b _ hb'
              obtain ⟨a, cp, rfl, g1, g2⟩ := hd.whole
              rw [p2]
              by_cases h0 : min ys1.length xs'.length = 0
              · refine ⟨_, _, none_ a _ cp h0, .val _, ?_⟩
                have : ys1.take xs'.length = [] := List.length_eq_zero_iff.1 (by rw [List.length_take]; omega)
                rw [this, splice_nil, upd_same_at hb']
                exact .refl hR key
              · obtain ⟨rfl, _⟩ := g2 (.inl (by omega))
                obtain ⟨news, l1, l2, l4⟩ := part (min ys1.length xs'.length) (by omega)
                have ht : ys1.take (min ys1.length xs'.length) = ys1.take xs'.length := by rw [Nat.min_comm, ← List.take_eq_take_min]
                rw [ht] at l1 l4
                obtain ⟨arr, ty', hh, p0, hfit2, hone, hst⟩ := splice_row (p := 0) (ys := ys1.take xs'.length) (news := news) hR hb' (by rw [List.length_take]; omega) (by intro e; have := congrArg List.length e; rw [List.length_take, List.length_nil] at this; omega) l1 l4 key
                exact ⟨_, _, by rw [p0]; exact some_ rfl l2 hh (by simpa using hfit2) hone, .val _, by simpa using hst⟩
            · exact h.fail.elim
          · exact h.fail.elim
        · rename_i b i n
          split at h
          · rename_i k' xs' hb'
            split at h
            · rename_i xs hcast
              obtain ⟨rfl, rfl⟩ := castK_some hcast
              simp only at h hb'
              obtain ⟨rfl, rfl⟩ := h.ok
              obtain ⟨p1, p2, p3, p4, p5, _⟩ := hR.hold b _ hb'
              obtain ⟨a, cp, rfl, g1, g2, g4⟩ := hd.cut
              by_cases h0 : min ys1.length n = 0
              · refine ⟨_, _, none_ a _ cp h0, .val _, ?_⟩
                have : ys1.take n = [] := List.length_eq_zero_iff.1 (by rw [List.length_take]; omega)
                rw [this, splice_nil, upd_same_at hb']
                exact .refl hR key
              · obtain ⟨rfl, _, hin⟩ := g2 (.inl (by omega))
                obtain ⟨news, l1, l2, l4⟩ := part (min ys1.length n) (by omega)
                have ht : ys1.take (min ys1.length n) = ys1.take n := by rw [Nat.min_comm, ← List.take_eq_take_min]
                rw [ht] at l1 l4
                obtain ⟨arr, ty', hh, p0, hfit2, hone, hst⟩ := splice_row (p := i) (ys := ys1.take n) (news := news) hR hb' (by rw [List.length_take]; omega) (by intro e; have := congrArg List.length e; rw [List.length_take, List.length_nil] at this; omega) l1 l4 key
                exact ⟨_, _, by rw [p0, p1, Nat.zero_add]; exact some_ rfl l2 hh hfit2 hone, .val _, hst⟩
            · exact h.fail.elim
          · exact h.fail.elim
        · exact h.fail.elim
theorem off_key (hc : Clean key H) {vb : VB} (hb : H b = some vb) : b ≠ key := by
  rintro rfl
  exact hc b (inRange_self b) (.inl (by rw [hb]; simp))
theorem does_grow (hR : Rel m Imm H w) (hc : Clean key H) (hx : V m (.slF b) x) (hy : V m (.slF c) y) (hb : H b = some (.row true .rule xs)) (hv : H c = some (.row true .rule vs)) (h1 : vs.length = 1) (hL : xs.length ≤ 1048576) (hi : i < xs.length)
    {a : Option Addr} {cp : Nat} (ex : x = .slice a (m b).len cp) (g1 : (m b).len ≤ cp) (g2 : (m b).len ≠ 0 ∨ cp ≠ 0 → a = some ⟨(m b).blk, (m b).off, none⟩ ∧ cp ≤ (m b).cap) (hr : cp < xs.length + 1) :
    Calls Try.prog 103 #[x, .int .i64 i, y] w fun e w' => InsPost m Imm H w key b (xs.take i ++ vs ++ xs.drop i) e w' := by
  have hT : TOk Try.prog TI103 := tOk_slices_BinarySearchFunc_api_Rule_api_Rule_api_Rule
  obtain ⟨e, inf, z, hu, hif, hz, hsz, hbt, hzs, hzo⟩ := kindS_ok hT (t := 95) (k := .rule) rfl
  have hu3 : Try.prog.underlying 3 = some (.int .i64) := (hT 3 _ rfl).desc
  have hb40 : inf.bytes = 40 := hbt
  have hs3 : inf.size = 3 := hsz
  have hsz3 : sz RK.rule = 3 := rfl
  obtain ⟨p1, p2, p3, p4, p5, _⟩ := hR.hold b _ hb
  obtain ⟨q1, q2, q3, q4, q5, _⟩ := hR.hold c _ hv
  obtain ⟨a2, cp2, rfl, g3, g4⟩ := hy.whole
  obtain ⟨rfl, hcc2⟩ := g4 (.inl (by omega))
  obtain ⟨rfl, hcc⟩ := g2 (.inl (by omega))
  have hcap0 : 0 < (m b).cap := by omega
  obtain ⟨p0, arr, ty', hh, hasz⟩ := p5 rfl hcap0
  subst ex
  have hbk := off_key hc hb
  have hck := off_key hc hv
  have hzp : 0 < z.cells.size := by rw [hzs]; exact sz_pos .rule
  have hzl : z.cells.toList.length = 3 := by rw [Array.length_toList]; exact hzs
  have hasz3 : arr.size = (m b).cap * 3 := hasz
  obtain ⟨zn, hzn⟩ : ∃ zn, zn = xs.length + 1 - i := ⟨_, rfl⟩
  have htl : (arr.toList.take (i * 3)).length = i * 3 := by
    have ha : arr.toList.length = (m b).cap * 3 := by rw [Array.length_toList, hasz3]
    rw [List.length_take, ha]
    exact Nat.min_eq_left (Nat.mul_le_mul_right _ (by omega))
  have hfo := run_firstCells_some (P := Try.prog) w.drew inf.size i ⟨(m b).blk, 0, none⟩ i cp (arr.toList.take (i * 3)) (by rw [htl, hs3]) (fun j v h => by
    rw [List.getElem?_take] at h
    split at h
    · show w.cell? _ = some v
      rw [Addr.add_mid, Nat.zero_add, cell_row hh]; exact h
    · cases h)
  have hrun := Lib.run_append_grow_zeros (P := Try.prog) w 95 3 95 e inf z .i64 .i64 hu hu3 hif hz (some ⟨(m b).blk, 0, none⟩) i cp _ hfo zn (by omega) (by omega) (by omega) (by omega) (by rw [hb40]; omega) (growslice_fits (by omega) (by rw [hb40]; omega))
  rw [show i + zn = xs.length + 1 by omega] at hrun
  obtain ⟨C, hCe⟩ : ∃ C, C = grownCap w (xs.length + 1) cp e := ⟨_, rfl⟩
  have hC : xs.length + 1 ≤ C := by rw [hCe]; unfold grownCap; simp [Question.cut]
  rw [← hCe] at hrun
  have hgr := grown_row (e := e) (z := z.cells) (olds := arr.toList.take (i * 3)) (news := (Builtin.zeroCells z.cells zn).toList) (k := .rule) (xs := xs.take i) (ys := List.replicate zn (zK .rule)) (C := C) hR hc (w0 := w.drew) rfl (drew_calm w)
    (by rw [List.length_take, List.length_replicate]; omega) hzs (by rw [htl, List.length_take, hsz3, Nat.min_eq_left (by omega)]) (fun q j e hq he => by
      rw [List.length_take] at hq
      have hg : (xs.take i).getD q (zK .rule) = xs.getD q (zK .rule) := by simp [List.getD, List.getElem?_take, show q < i by omega]
      rw [hg] at he
      obtain ⟨v, g5, g6⟩ := p4 q j e (by omega) he
      rw [p0, Nat.zero_add, cell_row hh] at g5
      refine ⟨v, ?_, g6⟩
      have hj : j < 3 := by have := (List.getElem?_eq_some_iff.1 he).1; rwa [enc_length] at this
      rw [hsz3] at g5 ⊢
      rw [List.getElem?_take, if_pos (by omega)]
      exact g5) (by rw [zeroCells_eq hzp, zerosOf_length, hzl, List.length_replicate]; rfl) (by rw [zeroCells_eq hzp]; exact zero_flat hzo)
  rw [show (xs.take i).length + (List.replicate zn (zK RK.rule)).length = xs.length + 1 by rw [List.length_take, List.length_replicate]; omega, show (xs.take i ++ List.replicate zn (zK RK.rule)).length = xs.length + 1 by rw [List.length_append, List.length_take, List.length_replicate]; omega] at hgr
  generalize hW1 : w.drew.alloc (.cells ((arr.toList.take (i * 3)).toArray ++ (Builtin.zeroCells z.cells zn).toList.toArray ++ Builtin.zeroCells z.cells (C - (xs.length + 1))) e) = W1 at hgr
  rw [show ∀ A : Array Value, A.toList.toArray = A from fun A => rfl] at hW1
  rw [hW1] at hrun
  obtain ⟨m1, hm1⟩ : ∃ m1, m1 = setM m key ⟨w.heap.size, 0, sz .rule, C, xs.length + 1⟩ := ⟨_, rfl⟩
  obtain ⟨H1, hH1⟩ : ∃ H1, H1 = upd [(key, some (VB.row true .rule (xs.take i ++ List.replicate zn (zK .rule))))] H := ⟨_, rfl⟩
  rw [← hm1, ← hH1] at hgr
  have hm1k : m1 key = ⟨w.heap.size, 0, sz .rule, C, xs.length + 1⟩ := by rw [hm1, setM_at]
  have hm1b : m1 b = m b := by rw [hm1, setM_ne _ _ hbk]
  have hm1c : m1 c = m c := by rw [hm1, setM_ne _ _ hck]
  have hH1k : H1 key = some (VB.row true .rule (xs.take i ++ List.replicate zn (zK .rule))) := by rw [hH1, upd_cons]; exact if_pos rfl
  have hH1c : H1 c = some (VB.row true .rule vs) := by rw [hH1, upd_cons, upd_nil]; exact (if_neg hck).trans hv
  have hd1 : V m1 (.slP key i zn) (.slice (some ⟨w.heap.size, i * 3, none⟩) zn (C - i)) := by
    have := V.slP (m := m1) key i zn (C - i) (by omega) (by rw [hm1k]; simp only; omega) (by rw [hm1k]; simp only; omega) (by rw [hm1k]; simp only; omega)
    rw [hm1k] at this
    simpa [hsz3] using this
  have hy1 : V m1 (.slF c) (.slice (some ⟨(m c).blk, (m c).off, none⟩) (m c).len cp2) := hy.moved fun x hx => by simp [SV.ids] at hx; subst hx; exact hm1c
  have e1 : sliceOf H1 (.slF c) = some ⟨.rule, vs⟩ := by unfold sliceOf; simp only [hH1c]
  obtain ⟨v2, W2, hrun2, _, hst2⟩ := does_copyS (ty := 3) (key := key) hT hgr.rel hd1 hy1 (by rw [evC hH1k e1]; exact .mk _ _)
  obtain ⟨H2, hH2⟩ : ∃ H2, H2 = upd [(key, some (VB.row true .rule (splice (xs.take i ++ List.replicate zn (zK .rule)) i (vs.take zn))))] H1 := ⟨_, rfl⟩
  rw [← hH2] at hst2
  have hH2k : H2 key = some (VB.row true .rule (splice (xs.take i ++ List.replicate zn (zK .rule)) i (vs.take zn))) := by rw [hH2, upd_cons]; exact if_pos rfl
  have hH2b : H2 b = some (VB.row true .rule xs) := by rw [hH2, upd_cons, upd_nil, hH1, upd_cons, upd_nil]; exact (if_neg hbk).trans ((if_neg hbk).trans hb)
  have hst3 := Step.drew hst2.rel key
  have hd3 : V m1 (.slP key (i + 1) (xs.length - i)) (.slice (some ⟨w.heap.size, (i + 1) * 3, none⟩) (xs.length - i) (C - (i + 1))) := by
    have := V.slP (m := m1) key (i + 1) (xs.length - i) (C - (i + 1)) (by omega) (by rw [hm1k]; simp only; omega) (by rw [hm1k]; simp only; omega) (by rw [hm1k]; simp only; omega)
    rw [hm1k] at this
    simpa [hsz3] using this
  have hx3 : V m1 (.slP b i (xs.length - i)) (.slice (some ⟨(m b).blk, i * 3, none⟩) (xs.length - i) (cp - i)) := by
    have := V.slP (m := m1) b i (xs.length - i) (cp - i) (by omega) (by rw [hm1b]; omega) (by rw [hm1b]; omega) (by rw [hm1b]; omega)
    rw [hm1b, p0, p1, hsz3, Nat.zero_add] at this
    exact this
  have e3 : sliceOf H2 (.slP b i (xs.length - i)) = some ⟨.rule, (xs.drop i).take (xs.length - i)⟩ := by unfold sliceOf; simp only [hH2b]
  obtain ⟨v3, W3, hrun3, _, hst4⟩ := does_copyS (ty := 3) (key := key) hT hst3.rel hd3 hx3 (by rw [evC hH2k e3]; exact .mk _ _)
  have hall := ((hgr.trans hst2).trans hst3).trans hst4
  have hdrop := hall.trans (Step.drop hst4.rel b key)
  rw [hzn, ins_list (by omega) (by rw [List.length_replicate]) h1] at hdrop
  have hHe : upd [(b, none)] (upd [(key, some (VB.row true .rule (xs.take i ++ vs ++ xs.drop i)))] H2) = upd [(key, some (VB.row true .rule (xs.take i ++ vs ++ xs.drop i))), (b, none)] H := by
    funext q
    simp only [upd_cons, upd_nil, hH2, hH1]
    by_cases e : q = key
    · subst e; rw [if_neg (Ne.symm hbk), if_pos rfl, if_pos rfl]
    · by_cases e' : q = b
      · subst e'; rw [if_pos rfl, if_neg e, if_pos rfl]
      · simp only [e, e', if_false]
  rw [hHe] at hdrop
  have hzi : ((zn : Nat) : Int) = (xs.length : Int) + 1 - i := by omega
  rw [hzi] at hrun
  rw [p2, q2, h1, p0]
  rw [q2, h1, hzn] at hrun2
  refine (ins_grow xs.length cp i cp2 (m b).blk w.heap.size C _ w W1 W2 W3 v2 v3 hi (by omega) hr (by omega) hrun hC hrun2 hrun3).mono fun e W ⟨he, hW⟩ => ?_
  subst hW
  refine ⟨_, _, _, he, ?_, hdrop⟩
  have := V.slF (m := m1) key C (by rw [hm1k]; exact hC) (by rw [hm1k]; exact Nat.le_refl _)
  rwa [hm1k] at this

theorem copy_raw {P : Program} {w : World} {t ty e : TypeId} {inf : TypeInfo} (hu : P.underlying t = some (.slice e)) (hi : P.info? e = some inf) {bk n off c q mm c' : Nat} {a' : Option Addr} {arr : Array Value} {t' : TypeId} {news : List Value} (hq : q = min mm n)
    (l2 : (Builtin.firstCells inf.size q (.slice a' mm c')).run P w = .ok news.toArray w) (hh : w.heap[bk]? = some (.cells arr t' (0, 0))) (hfit : off + news.length ≤ arr.size) (hone : ∀ v ∈ news, v.oneCell' = true) :
    (Builtin.copy_ #[t, t] ty #[.slice (some ⟨bk, off, none⟩) n c, .slice a' mm c']).run P w = .ok (.int .i64 ((min mm n : Nat) : Int)) (w.setRow bk (splice arr.toList off news).toArray) := by
  have hst2 := run_storeCells_at P bk off t' news 0 arr w hh (by simpa using hfit) hone
  simp only [Nat.add_zero] at hst2
  subst hq
  have l2' : (Builtin.firstCells inf.size (Nat.min mm n) (.slice a' mm c')).run P w = .ok news.toArray w := l2
  simp [Builtin.copy_, run_underlying hu, Builtin.lenOf, sizeOf, typeInfo, hi, l2', hst2, splice, goInt]
theorem does_room (hR : Rel m Imm H w) (hc : Clean key H) (hne : b ≠ c) (hx : V m (.slF b) x) (hy : V m (.slF c) y) (hb : H b = some (.row true .rule xs)) (hv : H c = some (.row true .rule vs)) (h1 : vs.length = 1) (hL : xs.length ≤ 1048576) (hi : i < xs.length)
    {a : Option Addr} {cp : Nat} (ex : x = .slice a (m b).len cp) (g1 : (m b).len ≤ cp) (g2 : (m b).len ≠ 0 ∨ cp ≠ 0 → a = some ⟨(m b).blk, (m b).off, none⟩ ∧ cp ≤ (m b).cap) (hr : xs.length + 1 ≤ cp) :
    Calls Try.prog 103 #[x, .int .i64 i, y] w fun e w' => InsPost m Imm H w key b (xs.take i ++ vs ++ xs.drop i) e w' := by
  have hT : TOk Try.prog TI103 := tOk_slices_BinarySearchFunc_api_Rule_api_Rule_api_Rule
  obtain ⟨e, inf, z, hu, hif, hz, hsz, hbt, hzs, hzo⟩ := kindS_ok hT (t := 95) (k := .rule) rfl
  have hs3 : inf.size = 3 := hsz
  have hsz3 : sz RK.rule = 3 := rfl
  obtain ⟨p1, p2, p3, p4, p5, _⟩ := hR.hold b _ hb
  obtain ⟨q1, q2, q3, q4, q5, _⟩ := hR.hold c _ hv
  have e1 : sliceOf H (.slF c) = some ⟨.rule, vs⟩ := by unfold sliceOf; simp only [hv]
  obtain ⟨a2, cp2, hye, g3, hrd⟩ := slice_read hR hy e1
  obtain ⟨a3, cp3, hye3, g4, g5⟩ := hy.whole
  rw [hye] at hye3
  obtain ⟨rfl, e4, rfl⟩ : a2 = a3 ∧ vs.length = (m c).len ∧ cp2 = cp3 := by
    injection hye3 with r1 r2 r3
    exact ⟨r1, r2, r3⟩
  obtain ⟨rfl, hcc2⟩ := g5 (.inl (by omega))
  subst hye
  obtain ⟨news2, l1, l2, _, l4⟩ := slice_cells (k := RK.rule) (ys := vs) hrd
  obtain ⟨rfl, hcc⟩ := g2 (.inl (by omega))
  have hcap0 : 0 < (m b).cap := by omega
  have hcap2 : 0 < (m c).cap := by omega
  obtain ⟨p0, arr, ty', hh, hasz⟩ := p5 rfl hcap0
  obtain ⟨q0, arr2, ty2, hh2, hasz2⟩ := q5 rfl hcap2
  subst ex
  have hblk : (m c).blk ≠ (m b).blk := (hR.dist c b _ _ hv hb hcap2 hcap0 (Ne.symm hne))
  have hasz3 : arr.size = (m b).cap * 3 := hasz
  have hasz4 : arr2.size = (m c).cap * 3 := hasz2
  have hAl : arr.toList.length = (m b).cap * 3 := by rw [Array.length_toList, hasz3]
  -- each cell of the row is one cell
  have hone : ∀ k v, k < xs.length * 3 → arr.toList[k]? = some v → v.oneCell' = true := by
    intro k v hk hkv
    have hj : k % 3 < 3 := Nat.mod_lt _ (by decide)
    have hq : k / 3 < xs.length := by omega
    have hlt : k % 3 < (enc RK.rule (xs.getD (k / 3) (zK .rule))).length := by rw [enc_length]; exact hj
    obtain ⟨v', g6, g7⟩ := p4 (k / 3) (k % 3) _ hq (List.getElem?_eq_getElem hlt)
    rw [p0, Nat.zero_add, cell_row hh, hsz3, show k / 3 * 3 + k % 3 = k by omega, hkv] at g6
    obtain rfl := Option.some.inj g6
    exact one_of_enc (k := .rule) (ys := [xs.getD (k / 3) (zK .rule)]) g7 (by simp)
  obtain ⟨news1, hn1⟩ : ∃ news1, news1 = (arr.toList.drop (i * 3)).take ((xs.length - i) * 3) := ⟨_, rfl⟩
  have hn1l : news1.length = (xs.length - i) * 3 := by rw [hn1, List.length_take, List.length_drop, hAl]; omega
  have hn1g : ∀ k, k < (xs.length - i) * 3 → news1[k]? = arr.toList[i * 3 + k]? := fun k hk => by rw [hn1, List.getElem?_take, if_pos hk, List.getElem?_drop]
  have f1 := run_firstCells_some (P := Try.prog) w.drew inf.size (xs.length - i) ⟨(m b).blk, i * 3, none⟩ (xs.length + 1 - i) (cp - i) news1 (by rw [hn1l, hs3]) (fun j v h => by
    have hj : j < (xs.length - i) * 3 := by have := (List.getElem?_eq_some_iff.1 h).1; omega
    show w.cell? _ = some v
    rw [Addr.add_mid, cell_row hh, ← hn1g j hj]; exact h)
  have hfit1 : (i + 1) * 3 + news1.length ≤ arr.size := by rw [hn1l, hasz3]; omega
  have r1 := copy_raw (P := Try.prog) (w := w.drew) (t := 95) (ty := 3) hu hif (bk := (m b).blk) (n := xs.length - i) (off := (i + 1) * 3) (c := cp - (i + 1)) (q := xs.length - i) (mm := xs.length + 1 - i) (by omega) f1 (t' := ty') hh hfit1 (fun v hvm => by
    obtain ⟨j, hj, rfl⟩ := List.getElem_of_mem hvm
    have := hn1g j (by omega)
    rw [List.getElem?_eq_getElem hj] at this
    exact hone (i * 3 + j) _ (by omega) this.symm)
  obtain ⟨A1, hA1⟩ : ∃ A1, A1 = splice arr.toList ((i + 1) * 3) news1 := ⟨_, rfl⟩
  rw [← hA1] at r1
  have hA1l : A1.length = (m b).cap * 3 := by rw [hA1, splice_length (by rw [hAl]; omega), hAl]
  have hh1 : (w.drew.setRow (m b).blk A1.toArray).heap[(m b).blk]? = some (.cells A1.toArray ty' (0, 0)) := setRow_at (w := w.drew) hh
  have hn2l : news2.length = 3 := by rw [l1, h1, hsz3]
  have f2 := run_firstCells_some (P := Try.prog) (w.drew.setRow (m b).blk A1.toArray) inf.size 1 ⟨(m c).blk, (m c).off, none⟩ vs.length cp2 news2 (by rw [hn2l, hs3]) (fun j v h => by
    have := l2 _ rfl j v h
    rw [Addr.add_lit] at this ⊢
    exact (cell_of_block (w := w) (setRow_other (w := w.drew) hblk)).trans this)
  have r2 := copy_raw (P := Try.prog) (t := 95) (ty := 3) hu hif (bk := (m b).blk) (n := xs.length + 1 - i) (off := i * 3) (c := cp - i) (q := 1) (mm := vs.length) (by omega) f2 (t' := ty') hh1 (by rw [hn2l, List.size_toArray, hA1l]; omega) (fun v hvm => by
    obtain ⟨j, hj, rfl⟩ := List.getElem_of_mem hvm
    have hj2 : j < (vs.flatMap (enc RK.rule)).length := by rw [flat_length, ← l1]; exact hj
    obtain ⟨v', g6, g7⟩ := l4 j _ (List.getElem?_eq_getElem hj2)
    rw [List.getElem?_eq_getElem hj] at g6
    obtain rfl := Option.some.inj g6
    exact one_of_enc g7 (List.getElem_mem hj2))
  obtain ⟨A2, hA2⟩ : ∃ A2, A2 = splice A1 (i * 3) news2 := ⟨_, rfl⟩
  rw [show A1.toArray.toList = A1 from rfl, ← hA2] at r2
  have hA2l : A2.length = (m b).cap * 3 := by rw [hA2, splice_length (by rw [hA1l]; omega), hA1l]
  have hov : ∀ lb cb, (callFunc 136 #[.slice (some ⟨(m c).blk, (m c).off, none⟩) 1 cp2, .slice (some ⟨(m b).blk, (i + 1) * 3, none⟩) lb cb]).run Try.prog w = .ok (.value (.bool false)) w := fun lb cb => by
    rw [run_callFunc_extern Try.func136 (by kernel_rfl) (by kernel_rfl) (by kernel_rfl) (e := Extern.SlicesOverlaps.overlaps #[95, 95] #[4]) (by kernel_rfl),
      Lib.run_overlaps_apart w 95 4 e hu inf.size (fun w => by simp [sizeOf, typeInfo, hif]) ⟨(m c).blk, (m c).off, none⟩ ⟨(m b).blk, (i + 1) * 3, none⟩ 1 cp2 lb cb hblk ty2 ty' arr2.size arr.size (by simp [World.shape?, hh2]) (by simp [World.shape?, hh]) (by omega) (by simp [World.frozen?, hh2]) (by simp [World.frozen?, hh2])]
    rfl
  have L1 : (xs.take i).length = i := by rw [List.length_take]; omega
  have LL : (xs.take i ++ vs ++ xs.drop i).length = xs.length + 1 := by rw [List.length_append, List.length_append, L1, h1, List.length_drop]; omega
  have hkeep : ∀ r, r ≠ (m b).blk → ((w.drew.setRow (m b).blk A1.toArray).setRow (m b).blk A2.toArray).heap[r]? = w.heap[r]? := fun r hr => (setRow_other hr).trans (setRow_other (w := w.drew) hr)
  have hh2' : ((w.drew.setRow (m b).blk A1.toArray).setRow (m b).blk A2.toArray).heap[(m b).blk]? = some (.cells A2.toArray ty' (0, 0)) := setRow_at hh1
  have hst := Step.move (key := key) (k' := key) (w' := (w.drew.setRow (m b).blk A1.toArray).setRow (m b).blk A2.toArray) (vb' := .row true .rule (xs.take i ++ vs ++ xs.drop i)) hR hb hcap0 (hc key (inRange_self key)) (inRange_self key) { m b with len := xs.length + 1 } rfl
    (((drew_calm w).trans (calm_setRow w.drew _ _)).trans (calm_setRow _ _ _)) hkeep ⟨p1, by rw [LL], by rw [LL]; show _ ≤ (m b).cap; omega, ?_, fun _ _ => ⟨p0, _, ty', hh2', by rw [List.size_toArray, hA2l]; rfl⟩, fun h => by cases h⟩
  · rw [← e4] at *
    have hv1 : ∀ V : Nat, V = vs.length → V = 1 := fun V h => by omega
    have hrun := ins_room xs.length cp i cp2 (m b).blk ⟨(m c).blk, (m c).off, none⟩ w _ _ _ _ hi hr (by omega) hov r1 (by rw [h1] at r2; exact r2)
    rw [p2, p0, h1]
    refine hrun.mono fun e W ⟨he, hW⟩ => ?_
    subst hW
    refine ⟨_, _, _, he, ?_, hst⟩
    have := slF_new m key { m b with len := xs.length + 1 } cp hr hcc
    rw [p0] at this
    exact this
  · intro q j ec hq he
    rw [LL] at hq
    have hj : j < 3 := by have := (List.getElem?_eq_some_iff.1 he).1; rwa [enc_length] at this
    have stay : ∀ {ev v}, CV Imm w ev v → CV Imm ((w.drew.setRow (m b).blk A1.toArray).setRow (m b).blk A2.toArray) ev v := fun h => h.stays (fun _ h => h) (fun r hr => hkeep r (by rintro rfl; exact hR.apart b _ hb hcap0 hr))
    have cell : ((w.drew.setRow (m b).blk A1.toArray).setRow (m b).blk A2.toArray).cell? ⟨(m b).blk, (m b).off + (q * sz RK.rule + j), none⟩ = A2[q * 3 + j]? := by
      rw [p0, Nat.zero_add, cell_row hh2', hsz3]
    show ∃ v, ((w.drew.setRow (m b).blk A1.toArray).setRow (m b).blk A2.toArray).cell? ⟨(m b).blk, (m b).off + (q * sz RK.rule + j), none⟩ = some v ∧ _
    suffices hs : ∃ v, A2[q * 3 + j]? = some v ∧ CV Imm w ec v by
      obtain ⟨v, s1, s2⟩ := hs
      exact ⟨v, cell.trans s1, stay s2⟩
    rw [hA2, splice_get (by rw [hA1l, hn2l]; omega), hn2l]
    have old : ∀ q', q' < xs.length → (enc RK.rule (xs.getD q' (zK .rule)))[j]? = some ec → ∃ v, arr.toList[q' * 3 + j]? = some v ∧ CV Imm w ec v := fun q' hq' he' => by
      obtain ⟨v, g6, g7⟩ := p4 q' j ec hq' he'
      rw [p0, Nat.zero_add, cell_row hh, hsz3] at g6
      exact ⟨v, g6, g7⟩
    rcases Nat.lt_trichotomy q i with hqi | hqi | hqi
    · rw [if_neg (by omega), hA1, splice_get (by rw [hAl]; omega), if_neg (by omega)]
      have hg : (xs.take i ++ vs ++ xs.drop i).getD q (zK .rule) = xs.getD q (zK .rule) := by
        simp only [List.getD]
        rw [List.append_assoc, List.getElem?_append_left (by omega), List.getElem?_take, if_pos hqi]
      rw [hg] at he
      obtain ⟨v, g6, g7⟩ := old q (by omega) he
      exact ⟨v, g6, g7⟩
    · subst hqi
      rw [if_pos (by omega), show q * 3 + j - q * 3 = j by omega]
      have hg : (xs.take q ++ vs ++ xs.drop q).getD q (zK .rule) = vs.getD 0 (zK .rule) := by
        simp only [List.getD]
        rw [List.append_assoc, List.getElem?_append_right (by omega), L1, Nat.sub_self, List.getElem?_append_left (by omega)]
      rw [hg] at he
      obtain ⟨v, g6, g7⟩ := l4 j ec (by have := flat_get (k := .rule) (j := j) hj vs 0 (by omega); rw [Nat.zero_mul, Nat.zero_add] at this; rw [this]; exact he)
      exact ⟨v, g6, g7⟩
    · rw [if_neg (by omega), hA1, splice_get (by rw [hAl]; omega), hn1l, if_pos (by omega), hn1g _ (by omega), show i * 3 + (q * 3 + j - (i + 1) * 3) = (q - 1) * 3 + j by omega]
      have hg : (xs.take i ++ vs ++ xs.drop i).getD q (zK .rule) = xs.getD (q - 1) (zK .rule) := by
        simp only [List.getD]
        rw [List.getElem?_append_right (by rw [List.length_append, L1, h1]; omega), List.length_append, L1, h1, List.getElem?_drop, show i + (q - (i + 1)) = q - 1 by omega]
      rw [hg] at he
      obtain ⟨v, g6, g7⟩ := old (q - 1) (by omega) he
      exact ⟨v, g6, g7⟩

theorem ok_ins : GOk Try.prog 103 gcIns where
  fn := ⟨_, Try.func103, by kernel_rfl, by kernel_rfl⟩
  iter := fun cap H key ag y u h => by simp [gcIns, mark] at h
  calls := by
    intro args H key s u h m Imm w vals hR hc hout hV
    unfold gcIns at h
    split at h
    · rename_i b i c
      split at h
      · rename_i xs hb
        split at h
        · rename_i vs hv
          cases hbc : Nat.beq b c with
          | true => rw [hbc] at h; exact h.fail.elim
          | false =>
            rw [hbc] at h
            obtain ⟨⟨h0, h1, h2, h3⟩, rfl, rfl⟩ := h.vc
            obtain ⟨i, rfl⟩ := Int.eq_ofNat_of_zero_le h0
            rw [Int.toNat_natCast]
            have hne : b ≠ c := by rintro rfl; rw [beqN] at hbc; simp at hbc
            obtain ⟨l⟩ := vals
            cases hV with
            | cons _ x _ r hx hr =>
              cases hr with
              | cons _ x2 _ r2 hx2 hr2 =>
                cases hr2 with
                | cons _ y _ r3 hy hr3 =>
                  cases hr3
                  cases hx2
                  have hi : i ≤ xs.length := by omega
                  obtain ⟨a, cp, ex, g1, g2⟩ := hx.whole
                  obtain ⟨p1, p2, p3, p4, p5, _⟩ := hR.hold b _ hb
                  rcases Nat.eq_or_lt_of_le hi with e | e
                  · subst e
                    exact does_end hR hc hx hy hb hv h2 h3
                  · by_cases hroom : xs.length + 1 ≤ cp
                    · exact does_room hR hc hne hx hy hb hv h2 h3 e ex g1 g2 hroom
                    · exact does_grow hR hc hx hy hb hv h2 h3 e ex g1 g2 (by omega)
        · exact h.fail.elim
      · exact h.fail.elim
    · exact h.fail.elim
theorem ok_slices_Insert_api_Rule_api_Rule : GOk Try.prog 103 gcIns := ok_ins
end Go.Proofs.Ythbmllekbbfobaa.Sx
