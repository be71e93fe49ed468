import Derived.Test.YthbmllekbbfobaaSxW
import Derived.Orders
import Derived.RangeFuncLeaves
import Derived.OrdersIn
import Derived.WalkSpells
/-! What a region's operations do, each from the state that it finds; and that the evaluator tells it. -/
namespace Go.Proofs.Ythbmllekbbfobaa.Sx
open Go
set_option linter.unusedVariables false
set_option linter.unusedSimpArgs false

/-- What is known of the slots that hold Bools is so. -/
def KnOK (S : St) : Prop := ∀ d b, S.know d = some b → S.get d = .val (.bool b)
def setG (g : Nat → SV) (d : Option Nat) (s : SV) : Nat → SV := match d with
  | none => g
  | some d => fun x => if x = d then s else g x

inductive Acts1 (T : TT) (Γ : List (Nat × GC)) (o : Oper) (key : Nat) (g : Nat → SV) (H : VH) : SV → List (Nat × Option VB) → List Nat → Prop
  | pick (c a b : Operand) (t : Bool) (ho : o.op = .pick c a b) (hc : arg g c = .val (.bool t)) : Acts1 T Γ o key g H (bif t then arg g a else arg g b) [] []
  | ev (s : SV) (u : List (Nat × Option VB)) (h : Holds (evS T Γ g H o key) s u) (ht : tidy (reach g H o) key s u = true) : Acts1 T Γ o key g H s u (reach g H o)
inductive Acts (T : TT) (Γ : List (Nat × GC)) (ops : List Oper) (o : Oper) (key : Nat) (g : Nat → SV) (H : VH) : SV → List (Nat × Option VB) → List Nat → Prop
  | plain (s : SV) (u : List (Nat × Option VB)) (ids : List Nat) (hg : o.guard = none) (h : Acts1 T Γ o key g H s u ids) : Acts T Γ ops o key g H s u ids
  | yes (s : SV) (u : List (Nat × Option VB)) (ids : List Nat) (j d : Nat) (want : Bool) (hg : o.guard = some (j, want)) (hj : dstOf ops j = some d) (hv : g d = .val (.bool want)) (h : Acts1 T Γ o key g H s u ids) : Acts T Γ ops o key g H s u ids
  | no (j d : Nat) (want t : Bool) (hg : o.guard = some (j, want)) (hj : dstOf ops j = some d) (hv : g d = .val (.bool t)) (ht : t ≠ want) : Acts T Γ ops o key g H (.val (.tuple #[])) [] []
  | off (j d : Nat) (want : Bool) (a : Array Value) (hg : o.guard = some (j, want)) (hj : dstOf ops j = some d) (hv : g d = .val (.tuple a)) : Acts T Γ ops o key g H (.val (.tuple #[])) [] []

theorem fB_eq (v : Option VB) (K : Option VB → Prop) : fB v K = K v := by
  cases v with
  | none => rfl
  | some v => cases v <;> simp [fB, fL_eq]
theorem fU_eq : ∀ (u hp : List (Nat × Option VB)) (K : List (Nat × Option VB) → Prop), fU u hp K = K (u ++ hp)
  | [], hp, K => rfl
  | (b, v) :: l, hp, K => by simp [fU, fN_eq, fB_eq, fU_eq l]
theorem fReach_eq : ∀ (n : Nat) (H : VH) (l : List Nat) (K : List Nat → Prop), fReach n H l K = K (reachN n H l)
  | 0, _, _, _ => rfl
  | n + 1, H, l, K => by simp only [fReach, fNs_eq, fReach_eq n, reachN]
theorem fT_eq : ∀ (l : List (Nat × SV)) (K : List (Nat × SV) → Prop), fT l K = K l
  | [], K => rfl
  | (d, s) :: l, K => by simp [fT, fS_eq, fT_eq l]
theorem fSt_eq (S : St) (K : St → Prop) : fSt S K = K S := by
  obtain ⟨tp, hp, n, kn⟩ := S
  simp [fSt, fT_eq, fU_eq, fN_eq]

theorem getT_cons (d : Nat) (s : SV) (tp : List (Nat × SV)) : getT ((d, s) :: tp) = fun x => if x = d then s else getT tp x := by
  funext x
  unfold getT
  simp only [lkN]
  rw [beqN]
  by_cases h : d = x
  · subst h; simp
  · have h' : ¬ x = d := fun e => h e.symm
    simp [h, h']
theorem lookH_append (u hp : List (Nat × Option VB)) : lookH (u ++ hp) = upd u (lookH hp) := by
  funext x
  unfold lookH upd
  rw [lkN_append]
  cases lkN u x <;> rfl
theorem knowT_cons (d : Nat) (o : Option Bool) (kn : List (Nat × Option Bool)) (x : Nat) : knowT ((d, o) :: kn) x = if x = d then o else knowT kn x := by
  unfold knowT
  simp only [lkN]
  rw [beqN]
  by_cases h : d = x
  · subst h; simp
  · have h' : ¬ x = d := fun e => h e.symm
    simp [h, h']

theorem goOn_ok {S : St} {d : Option Nat} {s : SV} {u : List (Nat × Option VB)} {K : St → Prop} (h : goOn S d s u K) (hk : KnOK S) :
    ∃ S', K S' ∧ S'.get = setG S.get d s ∧ S'.look = upd u S.look ∧ S'.next = S.next ∧ S'.hp = u ++ S.hp ∧ KnOK S' := by
  obtain ⟨tp, hp, n, kn⟩ := S
  unfold goOn at h
  simp only [fU_eq] at h
  cases d with
  | none => exact ⟨_, h, rfl, lookH_append u hp, rfl, rfl, hk⟩
  | some d =>
    simp only [fS_eq] at h
    refine ⟨_, h, getT_cons d s tp, lookH_append u hp, rfl, rfl, ?_⟩
    intro x b hx
    have hx : knowT ((d, none) :: kn) x = some b := hx
    rw [knowT_cons] at hx
    show getT ((d, s) :: tp) x = _
    rw [getT_cons]
    by_cases e : x = d
    · simp [e] at hx
    · simp only [e, if_false] at hx ⊢
      exact hk x b hx

theorem part_ok {S : St} {x : Operand} {K : Bool → St → Prop} (h : part S x K) (hk : KnOK S) :
    ∃ b S', arg S.get x = .val (.bool b) ∧ K b S' ∧ S'.get = S.get ∧ S'.look = S.look ∧ S'.next = S.next ∧ S'.hp = S.hp ∧ KnOK S' := by
  unfold part at h
  split at h
  · exact ⟨_, S, rfl, h, rfl, rfl, rfl, rfl, hk⟩
  · rename_i d
    split at h
    · rename_i b hb
      exact ⟨b, S, hk d b hb, h, rfl, rfl, rfl, rfl, hk⟩
    · split at h
      · rename_i t ht
        obtain ⟨tp, hp, n, kn⟩ := S
        have hkn : ∀ b, t = b → KnOK ⟨tp, hp, n, (d, some b) :: kn⟩ := by
          rintro b rfl x b' hx
          have hx : knowT ((d, some t) :: kn) x = some b' := hx
          rw [knowT_cons] at hx
          by_cases e : x = d
          · subst e
            simp at hx
            subst hx
            exact ht
          · simp only [e, if_false] at hx
            exact hk x b' hx
        cases hb : t with
        | true => exact ⟨true, _, by rw [← hb]; exact ht, h.1 hb, rfl, rfl, rfl, rfl, hkn true hb⟩
        | false => exact ⟨false, _, by rw [← hb]; exact ht, h.2 hb, rfl, rfl, rfl, rfl, hkn false hb⟩
      · exact h.elim
  · exact h.elim

theorem fin_ok {rs : List Nat} {key : Nat} {o : Oper} {S : St} {K : List Nat → List Nat → St → Prop} : ∀ {r : R}, fin rs key o S K r → ∃ s u, Holds r s u ∧ finOk rs key o S K s u
  | .ok s u, h => ⟨s, u, .mk _ _, h⟩
  | .vc c s u, h => ⟨s, u, .mkVc _ _ _ h.1.ok, h.2⟩
  | .br t a b, h => by
    have h : finBr t (fin rs key o S K a) (fin rs key o S K b) := h
    cases t with
    | true => obtain ⟨s, u, h1, h2⟩ := fin_ok (h.1 rfl); exact ⟨s, u, .yes _ _ _ _ _ rfl h1, h2⟩
    | false => obtain ⟨s, u, h1, h2⟩ := fin_ok (h.2 rfl); exact ⟨s, u, .no _ _ _ _ _ rfl h1, h2⟩
  | .fail _, h => h.elim

theorem ev_congr {T : TT} {Γ : List (Nat × GC)} {g g' : Nat → SV} {H : VH} {key : Nat} (o : Oper) (h : ∀ x ∈ o.op.operands, arg g' x = arg g x) : ev T Γ g' o H key = ev T Γ g o H key := by
  obtain ⟨dst, op, type, pos, after, guard⟩ := o
  have pairs : ∀ ps : Array (Nat × Operand), (∀ x ∈ ps.map (·.2), arg g' x = arg g x) → (ps.toList.map fun p => (p.1, arg g' p.2)) = (ps.toList.map fun p => (p.1, arg g p.2)) := fun ps hp =>
    List.map_congr_left fun p hm => by
      obtain ⟨i, x⟩ := p
      simp only [hp x (Array.mem_map.2 ⟨(i, x), by simpa using hm, rfl⟩)]
  cases op <;> simp only [Op.operands] at h <;> simp only [ev]
  case build t ps => rw [pairs ps fun x hx => h x (by simpa using hx)]
  case buildSlice t n ps => rw [pairs ps fun x hx => h x (by simpa using hx)]
  case makeFunc fn first captured =>
    rw [List.map_congr_left (l := first.toList) fun x hx => h x (by simp only [Array.mem_append]; exact .inl (by simpa using hx)), List.map_congr_left (l := captured.toList) fun x hx => h x (by simp only [Array.mem_append]; exact .inr (by simpa using hx))]
  case call c =>
    have hargs : c.args.toList.map (arg g') = c.args.toList.map (arg g) := List.map_congr_left fun x hx => h x (by simp only [Call.operands, Array.mem_append]; exact .inr (by simpa using hx))
    unfold evCall
    simp only [hargs]
    cases hc : c.callee with
    | value f => have hf : arg g' f = arg g f := h f (by simp [Call.operands, hc]); simp only [hf]
    | invoke r m => rfl
    | builtin b => cases b <;> rfl
  case slice t x lo hi mx => cases lo <;> cases hi <;> cases mx <;> simp_all
  all_goals (first | rfl | (simp_all; done))

theorem tmpsOf_get {g : Nat → SV} : ∀ {l : List Operand} {t : Nat}, Operand.tmp t ∈ l → getT (tmpsOf g l) t = g t
  | x :: l, t, h => by
    by_cases e : x = .tmp t
    · subst e
      simp [tmpsOf, getT_cons]
    · have h2 := tmpsOf_get (g := g) ((List.mem_cons.1 h).resolve_left fun h => e h.symm)
      cases x with
      | tmp t' =>
        simp only [tmpsOf, getT_cons]
        split
        · rename_i h; rw [h]
        · exact h2
      | _ => exact h2
theorem tmpsOf_arg {g : Nat → SV} {l : List Operand} {x : Operand} (h : x ∈ l) : arg (getT (tmpsOf g l)) x = arg g x := by
  cases x with
  | tmp t => exact tmpsOf_get h
  | _ => rfl
theorem blksOf_look {H : VH} : ∀ (l : List Nat), lookH (blksOf H l) = hidden l H
  | [] => by funext b; rfl
  | a :: l => by
    funext b
    have ih := congrFun (blksOf_look (H := H) l) b
    simp only [blksOf, lookH, lkN, hidden, memN] at ih ⊢
    rw [beqN, beqN]
    by_cases e : a = b
    · subst e; simp
    · have e' : ¬ b = a := fun h => e h.symm
      simp only [e, e', decide_false, cond_false]
      exact ih

theorem exec1_ok {T : TT} {Γ : List (Nat × GC)} {o : Oper} {key : Nat} {S : St} {K : List Nat → List Nat → St → Prop} (h : exec1 T Γ o key S K) (hk : KnOK S) :
    ∃ s u ids S', Acts1 T Γ o key S.get S.look s u ids ∧ K ids (u.map (·.1)) S' ∧ S'.get = setG S.get o.dst s ∧ S'.look = upd u S.look ∧ S'.next = S.next ∧ S'.hp = u ++ S.hp ∧ KnOK S' := by
  unfold exec1 at h
  split at h
  · rename_i c a b ho
    obtain ⟨t, S1, h1, h2, h3, h4, h5, h6, h7⟩ := part_ok h hk
    obtain ⟨S2, h8, h9, h10, h11, h12, h13⟩ := goOn_ok h2 h7
    rw [h3] at h9
    rw [h4] at h10
    exact ⟨_, [], [], S2, .pick c a b t ho h1, h8, h9, h10, h11.trans h5, by rw [h12, h6], h13⟩
  · rw [fT_eq, fNs_eq, fReach_eq, fNs_eq, fU_eq] at h
    have hargs : ∀ x ∈ o.op.operands, arg (getT (tmpsOf S.get o.op.operands.toList)) x = arg S.get x := fun x hx => tmpsOf_arg (by simpa using hx)
    have hmap : o.op.operands.toList.map (arg (getT (tmpsOf S.get o.op.operands.toList))) = o.op.operands.toList.map (arg S.get) := List.map_congr_left fun x hx => hargs x (by simpa using hx)
    rw [hmap, ev_congr o hargs, List.append_nil, blksOf_look] at h
    obtain ⟨s, u, h1, h2⟩ := fin_ok h
    unfold finOk at h2
    rw [fS_eq, fU_eq, List.append_nil] at h2
    change (bif tidy (reach S.get S.look o) key s u then _ else _) at h2
    change Holds (evS T Γ S.get S.look o key) s u at h1
    cases ht : tidy (reach S.get S.look o) key s u with
    | false => rw [ht] at h2; exact h2.elim
    | true =>
      rw [ht] at h2
      obtain ⟨S2, h8, h9, h10, h11, h12, h13⟩ := goOn_ok h2 hk
      exact ⟨s, u, _, S2, .ev s u h1 ht, h8, h9, h10, h11, h12, h13⟩

theorem step_ok {T : TT} {Γ : List (Nat × GC)} {ops : List Oper} {o : Oper} {key : Nat} {S : St} {K : List Nat → List Nat → St → Prop} (h : step T Γ ops o key S K) (hk : KnOK S) :
    ∃ s u ids S', Acts T Γ ops o key S.get S.look s u ids ∧ K ids (u.map (·.1)) S' ∧ S'.get = setG S.get o.dst s ∧ S'.look = upd u S.look ∧ S'.next = S.next ∧ S'.hp = u ++ S.hp ∧ KnOK S' := by
  unfold step at h
  split at h
  · rename_i hg
    obtain ⟨s, u, ids, S', h1, h2⟩ := exec1_ok h hk
    exact ⟨s, u, ids, S', .plain s u ids hg h1, h2⟩
  · rename_i j want hg
    split at h
    · rename_i d hd
      split at h
      · rename_i a ha
        obtain ⟨S2, h8, h9, h10, h11, h12, h13⟩ := goOn_ok h hk
        exact ⟨_, [], [], S2, .off j d want a hg hd ha, h8, h9, h10, h11, h12, h13⟩
      obtain ⟨t, S1, h1, h2, h3, h4, h5, h6, h7⟩ := part_ok h hk
      have h1 : S.get d = .val (.bool t) := h1
      cases e : (t == want) with
      | true =>
        rw [e] at h2
        obtain ⟨s, u, ids, S', h8, h9, h10, h11, h12, h13, h14⟩ := exec1_ok h2 h7
        rw [h3, h4] at h8
        rw [h3] at h10
        rw [h4] at h11
        refine ⟨s, u, ids, S', .yes s u ids j d want hg hd ?_ h8, h9, h10, h11, h12.trans h5, by rw [h13, h6], h14⟩
        rw [h1, eq_of_beq e]
      | false =>
        rw [e] at h2
        obtain ⟨S2, h8, h9, h10, h11, h12, h13⟩ := goOn_ok h2 h7
        rw [h3] at h9
        rw [h4] at h10
        exact ⟨_, [], [], S2, .no j d want t hg hd h1 (by simpa using e), h8, h9, h10, h11.trans h5, by rw [h12, h6], h13⟩
    · exact h.elim

structure Rec where
  s : SV
  u : List (Nat × Option VB)
  ids : List Nat
/-- The operations in the text's order. -/
inductive Tr (T : TT) (Γ : List (Nat × GC)) (ops : List Oper) : List Oper → Nat → (Nat → SV) → VH → List Rec → (Nat → SV) → VH → Prop
  | nil (key : Nat) (g : Nat → SV) (H : VH) : Tr T Γ ops [] key g H [] g H
  | cons (o : Oper) (l : List Oper) (key : Nat) (g : Nat → SV) (H : VH) (r : Rec) (rs : List Rec) (g' : Nat → SV) (H' : VH) (h : Acts T Γ ops o key g H r.s r.u r.ids)
      (h' : Tr T Γ ops l (key + stride) (setG g o.dst r.s) (upd r.u H) rs g' H') : Tr T Γ ops (o :: l) key g H (r :: rs) g' H'

def Rec.seen (r : Rec) : List Nat × List Nat := (r.ids, r.u.map (·.1))
def usOf : List Rec → List (Nat × Option VB)
  | [] => []
  | r :: rs => usOf rs ++ r.u

theorem runOps_ok {T : TT} {Γ : List (Nat × GC)} {ops : List Oper} {K : Seen → St → Prop} : ∀ (l : List Oper) (key : Nat) (S : St) (acc : Seen), runOps T Γ true ops l key S acc K → KnOK S →
    ∃ rs S', Tr T Γ ops l key S.get S.look rs S'.get S'.look ∧ rs.length = l.length ∧ K ((rs.map Rec.seen).reverse ++ acc) S' ∧ S'.next = key + l.length * stride ∧ S'.hp = usOf rs ++ S.hp ∧ KnOK S'
  | [], key, S, acc, h, hk => by
    obtain ⟨tp, hp, n, kn⟩ := S
    refine ⟨[], ⟨tp, hp, key, kn⟩, .nil _ _ _, rfl, ?_, by simp, rfl, hk⟩
    simpa [runOps_nil, runNil] using h
  | o :: l, key, S, acc, h, hk => by
    rw [runOps_cons] at h
    unfold stepB at h
    obtain ⟨s, u, ids, S1, h1, h2, h3, h4, h5, h6, h7⟩ := step_ok h hk
    have hn : ∃ n, key + stride = n + 1 := ⟨key + 63, rfl⟩
    obtain ⟨n, hn⟩ := hn
    rw [hn] at h2
    dsimp only at h2
    rw [← hn] at h2
    have h2 : runOps T Γ true ops l (key + stride) S1 ((ids, u.map (·.1)) :: acc) K := by simpa [fNs_eq] using h2
    obtain ⟨rs, S', h8, h9, h10, h11, h12, h13⟩ := runOps_ok l (key + stride) S1 _ h2 h7
    refine ⟨⟨s, u, ids⟩ :: rs, S', .cons o l key _ _ ⟨s, u, ids⟩ rs _ _ h1 (by rw [← h3, ← h4]; exact h8), by simp [h9], ?_, by rw [h11]; simp [Nat.add_mul]; omega, by rw [h12, h6]; simp [usOf], h13⟩
    simpa [Rec.seen] using h10
end Go.Proofs.Ythbmllekbbfobaa.Sx

/-! Operations in any order that the edges leave. -/
namespace Go.Proofs.Ythbmllekbbfobaa.Sx
open Go
set_option linter.unusedVariables false
set_option linter.unusedSimpArgs false

theorem tmp_in {ops : List Oper} {o : Oper} {t : Nat} (h : Operand.tmp t ∈ o.op.operands) : t ∈ insOf ops o :=
  List.mem_append_right _ (List.mem_filterMap.2 ⟨.tmp t, by simpa using h, rfl⟩)
theorem args_congr {ops : List Oper} {o : Oper} {g g' : Nat → SV} (h : ∀ d ∈ insOf ops o, g' d = g d) : ∀ x ∈ o.op.operands, arg g' x = arg g x := by
  intro x hx
  cases x with
  | tmp t => exact h t (tmp_in hx)
  | _ => rfl

theorem behind_congr {H H' : VH} {ids : List Nat} (h : ∀ b ∈ ids, H' b = H b) : behind H' ids = behind H ids := by
  unfold behind
  rw [List.flatMap_def, List.flatMap_def]
  congr 1
  exact List.map_congr_left fun b hb => by simp only [h b hb]
theorem reachN_congr {H H' : VH} : ∀ {n : Nat} {l : List Nat}, (∀ b ∈ reachN n H l, H' b = H b) → reachN n H' l = reachN n H l
  | 0, l, _ => rfl
  | n + 1, l, h => by
    simp only [reachN] at h ⊢
    have h2 : behind H' l = behind H l := behind_congr fun b hb => h b (List.mem_append_left _ hb)
    rw [h2, reachN_congr fun b hb => h b (List.mem_append_right _ hb)]
theorem reach_congr {o : Oper} {g g' : Nat → SV} {H H' : VH} (hg : ∀ x ∈ o.op.operands, arg g' x = arg g x) (hH : ∀ b ∈ reach g H o, H' b = H b) : reach g' H' o = reach g H o := by
  have h1 : o.op.operands.toList.map (arg g') = o.op.operands.toList.map (arg g) := List.map_congr_left fun x hx => hg x (by simpa using hx)
  unfold reach at hH ⊢
  rw [h1]
  exact reachN_congr hH
theorem hidden_congr {H H' : VH} {ids : List Nat} (h : ∀ b ∈ ids, H' b = H b) : hidden ids H' = hidden ids H := by
  funext b
  by_cases hb : b ∈ ids
  · rw [hidden_in _ hb, hidden_in _ hb, h b hb]
  · rw [hidden_out _ hb, hidden_out _ hb]

theorem reach_args {o : Oper} {g g' : Nat → SV} (hg : ∀ x ∈ o.op.operands, arg g' x = arg g x) : o.op.operands.toList.map (arg g') = o.op.operands.toList.map (arg g) := List.map_congr_left fun x hx => hg x (by simpa using hx)
/-- What looks at nothing. -/
theorem ev_still {T : TT} {Γ : List (Nat × GC)} {g : Nat → SV} {o : Oper} {H H' : VH} {key : Nat} (hc : clsOf o.op = 0) : ev T Γ g o H' key = ev T Γ g o H key := by
  obtain ⟨dst, op, type, pos, after, guard⟩ := o
  cases op <;> first | rfl | (simp [clsOf] at hc; done)
theorem ev_load {T : TT} {Γ : List (Nat × GC)} {g : Nat → SV} {o : Oper} {H H' : VH} {key : Nat} {s : SV} {u : List (Nat × Option VB)} (hc : clsOf o.op = 1) (h : Holds (ev T Γ g o H key) s u) :
    ∃ b, idsL (o.op.operands.toList.map (arg g)) = [b] ∧ (H' b = H b → ev T Γ g o H' key = ev T Γ g o H key) := by
  obtain ⟨dst, op, type, pos, after, guard⟩ := o
  cases op with
  | load t a =>
    simp only [Op.operands, ev] at h ⊢
    have e : idsL ([a].map (arg g)) = (arg g a).ids := by simp [idsL]
    change ∃ b, idsL ([a].map (arg g)) = [b] ∧ _
    rw [e]
    generalize arg g a = x at h ⊢
    cases x with
    | ptr b j => exact ⟨b, rfl, fun hb => by unfold evLoad; simp only [hb]⟩
    | elt b i j => exact ⟨b, rfl, fun hb => by unfold evLoad; simp only [hb]⟩
    | _ => unfold evLoad at h; split at h <;> cases h
  | _ => simp [clsOf] at hc
theorem Acts1.frame {T : TT} {Γ : List (Nat × GC)} {o : Oper} {key : Nat} {g g' : Nat → SV} {H H' : VH} {s : SV} {u : List (Nat × Option VB)} {ids : List Nat} (h : Acts1 T Γ o key g H s u ids)
    (hg : ∀ x ∈ o.op.operands, arg g' x = arg g x) (hH : ∀ b ∈ needOf o ids, H' b = H b) : Acts1 T Γ o key g' H' s u ids := by
  cases h with
  | pick c a b t ho hc =>
    rw [ho] at hg
    simp only [Op.operands] at hg
    rw [← hg a (by simp), ← hg b (by simp)]
    exact .pick c a b t ho ((hg c (by simp)).trans hc)
  | ev s u h ht =>
    have key1 : reach g' H' o = reach g H o → (Holds (Sx.ev T Γ g o (hidden (reach g H o) H') key) s u) → Acts1 T Γ o key g' H' s u (reach g H o) := by
      intro hr h'
      rw [← hr]
      refine .ev s u ?_ (by rw [hr]; exact ht)
      unfold evS
      rw [hr, ev_congr o hg]
      exact h'
    unfold needOf at hH
    split at hH
    · rename_i hc
      refine key1 ?_ ?_
      · unfold reach deepOf
        simp only [hc, reachN]
        rw [reach_args hg]
      · rw [ev_still (H := hidden (reach g H o) H) hc]; exact h
    · rename_i hc
      obtain ⟨b, hb, hl⟩ := ev_load (H' := hidden (reach g H o) H') hc h
      have hr : reach g H o = b :: behind H [b] := by
        unfold reach deepOf
        simp only [hc, reachN, hb]
        rfl
      rw [hr] at hH
      have hHb : H' b = H b := hH b (by simp [take1])
      refine key1 ?_ ?_
      · rw [hr]
        unfold reach deepOf
        simp only [hc, reachN]
        rw [reach_args hg, hb, behind_congr (H := H) (H' := H') fun c hc => by rw [List.mem_singleton] at hc; rw [hc]; exact hHb]
        rfl
      · rw [hl (by rw [hidden_in _ (by rw [hr]; simp), hidden_in _ (by rw [hr]; simp), hHb])]
        exact h
    · have hr := reach_congr hg hH
      refine key1 hr ?_
      rw [hidden_congr hH]
      exact h
theorem Acts.frame {T : TT} {Γ : List (Nat × GC)} {ops : List Oper} {o : Oper} {key : Nat} {g g' : Nat → SV} {H H' : VH} {s : SV} {u : List (Nat × Option VB)} {ids : List Nat} (h : Acts T Γ ops o key g H s u ids)
    (hg : ∀ d ∈ insOf ops o, g' d = g d) (hH : ∀ b ∈ needOf o ids, H' b = H b) : Acts T Γ ops o key g' H' s u ids := by
  cases h with
  | plain s u ids h0 h => exact .plain s u ids h0 (h.frame (args_congr hg) hH)
  | yes s u ids j d want h0 hj hv h => exact .yes s u ids j d want h0 hj ((hg d (by simp [insOf, h0, hj])).trans hv) (h.frame (args_congr hg) hH)
  | off j d want a h0 hj hv => exact .off j d want a h0 hj ((hg d (by simp [insOf, h0, hj])).trans hv)
  | no j d want t h0 hj hv ht => exact .no j d want t h0 hj ((hg d (by simp [insOf, h0, hj])).trans hv) ht

/-! The state after some of the operations. -/
def last (W : Nat → Bool) : Nat → Option Nat
  | 0 => none
  | n + 1 => bif W n then some n else last W n
theorem last_congr {W W' : Nat → Bool} : ∀ n, (∀ k, k < n → W k = W' k) → last W n = last W' n
  | 0, _ => rfl
  | n + 1, h => by
    simp only [last]
    rw [h n (Nat.lt_succ_self n), last_congr n fun k hk => h k (Nat.lt_succ_of_lt hk)]
theorem last_top {W : Nat → Bool} {i : Nat} : ∀ n, i < n → W i = true → (∀ k, i < k → k < n → W k = false) → last W n = some i
  | 0, h, _, _ => absurd h (Nat.not_lt_zero _)
  | n + 1, h, hi, hk => by
    simp only [last]
    by_cases e : i = n
    · subst e; rw [hi]; rfl
    · rw [hk n (by omega) (Nat.lt_succ_self n)]
      exact last_top n (by omega) hi fun k h1 h2 => hk k h1 (Nat.lt_succ_of_lt h2)

structure Plan where
  n : Nat
  D : Nat → Option Nat
  r : Nat → Rec
  g0 : Nat → SV
  H0 : VH
def Plan.W (p : Plan) (S : Nat → Bool) (d k : Nat) : Bool := S k && decide (p.D k = some d)
def Plan.WH (p : Plan) (S : Nat → Bool) (b k : Nat) : Bool := S k && (lkN (p.r k).u b).isSome
def Plan.G (p : Plan) (S : Nat → Bool) : Nat → SV := fun d => match last (p.W S d) p.n with
  | some k => (p.r k).s
  | none => p.g0 d
def Plan.H (p : Plan) (S : Nat → Bool) : VH := fun b => match last (p.WH S b) p.n with
  | some k => (match lkN (p.r k).u b with | some v => v | none => none)
  | none => p.H0 b

theorem Plan.G_congr {p : Plan} {S S' : Nat → Bool} {d : Nat} (h : ∀ k, k < p.n → p.D k = some d → S k = S' k) : p.G S d = p.G S' d := by
  unfold Plan.G
  rw [last_congr (W' := p.W S' d)]
  intro k hk
  unfold Plan.W
  by_cases e : p.D k = some d
  · rw [h k hk e]
  · simp [e]
theorem Plan.H_congr {p : Plan} {S S' : Nat → Bool} {b : Nat} (h : ∀ k, k < p.n → (lkN (p.r k).u b).isSome = true → S k = S' k) : p.H S b = p.H S' b := by
  unfold Plan.H
  rw [last_congr (W' := p.WH S' b)]
  intro k hk
  unfold Plan.WH
  cases e : (lkN (p.r k).u b).isSome with
  | true => rw [h k hk e]
  | false => simp
theorem Plan.G_put {p : Plan} {S S' : Nat → Bool} {i : Nat} (hi : i < p.n) (hS : S' i = true) (hne : ∀ k, k < p.n → k ≠ i → S' k = S k) (ha : ∀ k d, i < k → k < p.n → S k = true → p.D i = some d → p.D k ≠ some d) :
    p.G S' = setG (p.G S) (p.D i) (p.r i).s := by
  funext d
  have other : p.D i ≠ some d → p.G S' d = p.G S d := fun h => G_congr fun k hk hd => hne k hk (by rintro rfl; exact h hd)
  cases hD : p.D i with
  | none => exact other (by rw [hD]; simp)
  | some d0 =>
    simp only [setG]
    by_cases e : d = d0
    · subst e
      simp only [if_true]
      unfold Plan.G
      rw [last_top (i := i) p.n hi (by simp [Plan.W, hS, hD])]
      intro k h1 h2
      unfold Plan.W
      rw [hne k h2 (by omega)]
      cases hk : S k with
      | false => rfl
      | true => simpa using ha k d h1 h2 hk hD
    · simp only [e, if_false]
      exact other (by rw [hD]; intro h; exact e (Option.some.inj h).symm)
theorem Plan.H_put {p : Plan} {S S' : Nat → Bool} {i : Nat} (hi : i < p.n) (hS : S' i = true) (hne : ∀ k, k < p.n → k ≠ i → S' k = S k)
    (ha : ∀ k b, i < k → k < p.n → S k = true → (lkN (p.r i).u b).isSome = true → (lkN (p.r k).u b).isSome = false) : p.H S' = upd (p.r i).u (p.H S) := by
  funext b
  unfold upd
  cases hb : lkN (p.r i).u b with
  | none => exact H_congr fun k hk hd => hne k hk (by rintro rfl; rw [hb] at hd; cases hd)
  | some v =>
    show p.H S' b = v
    unfold Plan.H
    rw [last_top (i := i) p.n hi (by simp [Plan.WH, hS, hb])]
    · simp [hb]
    · intro k h1 h2
      unfold Plan.WH
      rw [hne k h2 (by omega)]
      cases hk : S k with
      | false => rfl
      | true => simpa using ha k b h1 h2 hk (by rw [hb]; rfl)

def upto (i k : Nat) : Bool := decide (k < i)
theorem Plan.G_next (p : Plan) {i : Nat} (hi : i < p.n) : p.G (upto (i + 1)) = setG (p.G (upto i)) (p.D i) (p.r i).s :=
  G_put hi (by simp [upto]) (fun k _ h => by simp only [upto]; congr 1; simp only [eq_iff_iff]; omega) (fun k d h1 _ h2 => by simp only [upto, decide_eq_true_eq] at h2; omega)
theorem Plan.H_next (p : Plan) {i : Nat} (hi : i < p.n) : p.H (upto (i + 1)) = upd (p.r i).u (p.H (upto i)) :=
  H_put hi (by simp [upto]) (fun k _ h => by simp only [upto]; congr 1; simp only [eq_iff_iff]; omega) (fun k d h1 _ h2 => by simp only [upto, decide_eq_true_eq] at h2; omega)
theorem last_none (n : Nat) : last (fun _ => false) n = none := by
  induction n with
  | zero => rfl
  | succ n ih => simpa [last] using ih
theorem Plan.G_zero (p : Plan) : p.G (upto 0) = p.g0 := by
  funext d
  unfold Plan.G
  rw [last_congr (W' := fun _ => false) p.n (fun k _ => by simp [Plan.W, upto]), last_none]
theorem Plan.H_zero (p : Plan) : p.H (upto 0) = p.H0 := by
  funext d
  unfold Plan.H
  rw [last_congr (W' := fun _ => false) p.n (fun k _ => by simp [Plan.WH, upto]), last_none]

theorem dstOf_at {ops : List Oper} {i : Nat} {o : Oper} (h : ops[i]? = some o) : dstOf ops i = o.dst := by unfold dstOf; rw [h]

theorem Tr.plan {T : TT} {Γ : List (Nat × GC)} {ops : List Oper} {p : Plan} {key0 : Nat} (hn : p.n = ops.length) (hD : ∀ i, p.D i = dstOf ops i) {l : List Oper} {key : Nat} {g : Nat → SV} {H : VH} {rs : List Rec} {g' : Nat → SV} {H' : VH}
    (h : Tr T Γ ops l key g H rs g' H') : ∀ (i : Nat), i + l.length = ops.length → (∀ j, l[j]? = ops[i + j]?) → (∀ j r, rs[j]? = some r → p.r (i + j) = r) → g = p.G (upto i) → H = p.H (upto i) → key = key0 + i * stride →
      (∀ j o, i ≤ j → ops[j]? = some o → Acts T Γ ops o (key0 + j * stride) (p.G (upto j)) (p.H (upto j)) (p.r j).s (p.r j).u (p.r j).ids) ∧ g' = p.G (upto p.n) ∧ H' = p.H (upto p.n) := by
  induction h with
  | nil key g H =>
    intro i hi hl hr hg hH hk
    have hi : i = ops.length := by simpa using hi
    subst hi
    refine ⟨fun j o h1 h2 => ?_, by rw [hg, hn], by rw [hH, hn]⟩
    have := (List.getElem?_eq_some_iff.1 h2).1
    omega
  | cons o l key g H r rs g' H' ha _ ih =>
    intro i hi hl hr hg hH hk
    simp only [List.length_cons] at hi
    have ho : ops[i]? = some o := by simpa using (hl 0).symm
    have hri : p.r i = r := hr 0 r rfl
    have hlt : i < p.n := by omega
    subst hg hH hk
    obtain ⟨h1, h2⟩ := ih (i + 1) (by omega) (fun j => by have := hl (j + 1); rw [show i + 1 + j = i + (j + 1) by omega]; simpa using this) (fun j r' hj => by have := hr (j + 1) r' (by simpa using hj); rw [← this]; congr 1; omega)
      (by rw [p.G_next hlt, hri, hD, dstOf_at ho]) (by rw [p.H_next hlt, hri]) (by rw [Nat.add_mul]; omega)
    refine ⟨fun j o' h3 h4 => ?_, h2⟩
    by_cases e : j = i
    · subst e
      rw [ho] at h4
      obtain rfl := Option.some.inj h4
      rw [hri]; exact ha
    · exact h1 j o' (by omega) h4
end Go.Proofs.Ythbmllekbbfobaa.Sx

/-! A region's operations done in the world: in the text's order, and in each that may be drawn. -/
namespace Go.Proofs.Ythbmllekbbfobaa.Sx
open Go
set_option linter.unusedVariables false
set_option linter.unusedSimpArgs false

def Used (g : Nat → SV) (H : VH) (b : Nat) : Prop := UsedIn H b ∨ ∃ d, b ∈ (g d).ids
structure Env where
  Z : Nat → Prop
  I0 : Nat → Prop
  w0 : World
  wide : Nat
  low : Nat
  m0 : Nat → Place
  lo : Nat
  lo_le : lo ≤ w0.heap.size
/-- The marks of loops over iterators among the calls that wait: nobody has shut their blocks. -/
def Marks (lo : Nat) (Imm : Nat → Prop) (w : World) : List Deferred → Prop
  | [] => True
  | d :: ds => (∃ D, d = { target := .collected D, args := #[] } ∧ w.heap[D]? = some (.deferred (some [])) ∧ lo ≤ D ∧ ¬ Imm D ∧ ∀ D', ({ target := .collected D', args := #[] } : Deferred) ∈ ds → D' ≠ D) ∧ Marks lo Imm w ds
theorem Marks.mono {lo : Nat} {Imm Imm' : Nat → Prop} {w w' : World} (h : ∀ D, w.heap[D]? = some (.deferred (some [])) → lo ≤ D → ¬ Imm D → w'.heap[D]? = some (.deferred (some [])) ∧ ¬ Imm' D) : ∀ {ds : List Deferred}, Marks lo Imm w ds → Marks lo Imm' w' ds
  | [], _ => trivial
  | d :: ds, ⟨⟨D, h1, h2, h3, h4, h5⟩, hr⟩ => ⟨⟨D, h1, (h D h2 h3 h4).1, h3, (h D h2 h3 h4).2, h5⟩, Marks.mono h hr⟩
theorem book_of {Imm : Nat → Prop} {w : World} {D : Nat} {ds : Option (List Deferred)} (h : w.heap[D]? = some (.deferred ds)) (hi : ¬ Imm D) : Book Imm w D := ⟨hi, fun _ _ _ e => by rw [h] at e; cases e⟩
theorem Marks.step {lo key : Nat} {m m' : Nat → Place} {Imm Imm' : Nat → Prop} {H H' : VH} {w w' : World} (hR : Rel m Imm H w) (k : Step m Imm H w m' Imm' H' w' key) {ds : List Deferred} (h : Marks lo Imm w ds) : Marks lo Imm' w' ds :=
  h.mono fun D h1 _ h3 => by
    have hlt := (Array.getElem?_eq_some_iff.1 h1).1
    have hz := (book_of h1 h3).zone hR hlt
    refine ⟨(k.keep D hlt hz).trans h1, fun hi => ?_⟩
    rcases k.zone D hi with h | h
    · exact h3 h
    · exact hz h
/-- A fence that lets all in; the round of loop r, if any. -/
abbrev fr (r : Option Nat) : Fence := { Fence.wide with round := r }
theorem callsIn_fr {r : Option Nat} {n : Nat} {P : Program} {f : FuncId} {args : Array Value} {w : World} {R : Ending → World → Prop} (h : Calls P f args w R) : CallsIn (fr r) n P f args w R := callsIn_wide.2 h
theorem oper_in {r : Option Nat} {P : Program} {o : Oper} {a : Act} {w : World} {next : Act → World → Prop} {Q : Exit → Act → World → Prop} (hd : ∀ c, o.op ≠ .defer c) (h : o.wp P a w next Q) : o.wpIn (fr r) 0 P a w next Q := by
  refine ⟨fun _ _ => trivial, ?_⟩
  rw [Oper.semAt_eq _ _ _ hd]
  unfold Oper.wp at h
  generalize (execOp a.eval o).run P w = x at *
  cases x with
  | ok x w' =>
    cases x with
    | enter f args => exact ⟨fun hn => absurd hn (by simp [Fence.wide]), callsIn_fr h⟩
    | row nm args => exact ⟨fun hn => absurd hn (by simp [Fence.wide]), fun c cs _ => let ⟨v, w'', r', s⟩ := h c cs; ⟨v, w'', r', stepsIn_wide.2 s⟩⟩
    | round l f tmps x y => exact (show False from h).elim
    | _ => exact h
  | halt x w' => cases x <;> exact h

structure Live (E : Env) (m : Nat → Place) (Imm : Nat → Prop) (g : Nat → SV) (H : VH) (a : Act) (w : World) : Prop where
  since : Since E.Z E.I0 E.w0 m Imm H w
  slots : Slots m g a
  size : a.tmps.size = E.wide
  defers : Marks E.lo Imm w a.defers
  same : ∀ b, b < E.low → m b = E.m0 b

variable {P : Program} {T : TT} {Γ : List (Nat × GC)} {E : Env} {rd : Option Nat} {m m' : Nat → Place} {Imm Imm' : Nat → Prop} {g : Nat → SV} {H H' : VH} {a : Act} {w w' : World} {key : Nat} {s : SV} {u : List (Nat × Option VB)}

theorem Live.put (h : Live E m Imm g H a w) (k : Step m Imm H w m' Imm' H' w' key) {v : Value} (hv : V m' s v) (hg : Away key g) {dst : Option Nat} (hd : ∀ d, dst = some d → d < E.wide) (hlow : E.low ≤ key) :
    Live E m' Imm' (setG g dst s) H' (a.put dst v) w' := by
  have moved : ∀ d, V m' (g d) (a.tmps.getD d undef) := fun d => (h.slots d).moved fun b hb => k.same b (hg d b hb)
  refine ⟨h.since.step k, ?_, ?_, ?_, ?_⟩
  · cases dst with
    | none => exact moved
    | some e =>
      intro d
      simp only [setG, Act.put]
      have he : e < a.tmps.size := by rw [h.size]; exact hd e rfl
      by_cases hde : d = e
      · subst hde
        simpa [he] using hv
      · have := moved d
        simp only [hde, if_false]
        rw [Array.getD_eq_getD_getElem?, Array.getElem?_setIfInBounds_ne (by omega)]
        simpa [Array.getD_eq_getD_getElem?] using this
  · cases dst <;> simp [Act.put, h.size]
  · have := h.defers.step h.since.rel k
    cases dst <;> exact this
  · intro b hb
    rw [k.same b (by
      cases e : inRange key b with
      | false => rfl
      | true => rw [inRange_iff] at e; omega)]
    exact h.same b hb

theorem arg_used {g : Nat → SV} (x : Operand) {b : Nat} (hb : b ∈ (arg g x).ids) : Used g H b := by
  cases x with
  | tmp t => exact .inr ⟨t, hb⟩
  | const v => rw [show (arg g (.const v)).ids = [] from ofVal_ids v] at hb; simp at hb
  | global i => simp [arg, SV.ids] at hb
  | func f => simp [arg, SV.ids, idsL] at hb
theorem args_used {g : Nat → SV} : ∀ (l : List Operand) {b : Nat}, b ∈ idsL (l.map (arg g)) → Used g H b
  | [], b, hb => by simp [idsL] at hb
  | x :: l, b, hb => by
    simp only [List.map_cons, idsL, List.mem_append] at hb
    rcases hb with hb | hb
    · exact arg_used x hb
    · exact args_used l hb
theorem behind_used {l : List Nat} {b : Nat} (hb : b ∈ behind H l) : UsedIn H b := by
  unfold behind at hb
  obtain ⟨c, hc, hb⟩ := List.mem_flatMap.1 hb
  split at hb
  · rename_i cs he
    exact .inr ⟨c, cs, he, hb⟩
  · simp at hb
theorem reachN_used : ∀ {n : Nat} {l : List Nat}, (∀ b ∈ l, Used g H b) → ∀ b ∈ reachN n H l, Used g H b
  | 0, _, h, b, hb => h b hb
  | n + 1, l, h, b, hb => by
    simp only [reachN, List.mem_append] at hb
    rcases hb with hb | hb
    · exact h b hb
    · exact reachN_used (fun b hb => .inl (behind_used hb)) b hb
theorem reach_used {o : Oper} {b : Nat} (hb : b ∈ reach g H o) : Used g H b := reachN_used (fun _ hb => args_used _ hb) b hb
theorem okIds_ok {rs l : List Nat} (h : okIds rs key l = true) : ∀ b ∈ l, inRange key b = true ∨ b ∈ rs := by
  intro b hb
  have := (List.all_eq_true.1 h) b hb
  unfold okId at this
  rw [Bool.or_eq_true, memN_iff] at this
  exact this
theorem tidy_ok {rs : List Nat} (h : tidy rs key s u = true) : (∀ b ∈ s.ids, inRange key b = true ∨ b ∈ rs) ∧ ∀ b ∈ idsU u, inRange key b = true ∨ b ∈ rs := by
  unfold tidy at h
  rw [Bool.and_eq_true] at h
  exact ⟨okIds_ok h.1, okIds_ok h.2⟩
theorem idsU_key : ∀ {u : List (Nat × Option VB)} {p : Nat × Option VB}, p ∈ u → p.1 ∈ idsU u
  | (b, some (.cells cs)) :: l, p, h => by
    rcases List.mem_cons.1 h with rfl | h
    · simp [idsU]
    · simp [idsU, idsU_key h]
  | (b, some (.row _ _ _)) :: l, p, h => by
    rcases List.mem_cons.1 h with rfl | h
    · simp [idsU]
    · simp [idsU, idsU_key h]
  | (b, none) :: l, p, h => by
    rcases List.mem_cons.1 h with rfl | h
    · simp [idsU]
    · simp [idsU, idsU_key h]
theorem idsU_cells : ∀ {u : List (Nat × Option VB)} {b : Nat} {cs : List SV}, (b, some (.cells cs)) ∈ u → ∀ x ∈ idsL cs, x ∈ idsU u
  | (b, some (.cells cs)) :: l, c, ds, h, x, hx => by
    rcases List.mem_cons.1 h with h | h
    · cases h; simp [idsU, hx]
    · simp [idsU, idsU_cells h x hx]
  | (b, some (.row _ _ _)) :: l, c, ds, h, x, hx => by
    rcases List.mem_cons.1 h with h | h
    · cases h
    · simp [idsU, idsU_cells h x hx]
  | (b, none) :: l, c, ds, h, x, hx => by
    rcases List.mem_cons.1 h with h | h
    · cases h
    · simp [idsU, idsU_cells h x hx]

theorem used_upd {dst : Option Nat} {rs : List Nat} (hs : ∀ b ∈ s.ids, inRange key b = true ∨ b ∈ rs) (hu : ∀ b ∈ idsU u, inRange key b = true ∨ b ∈ rs) (hr : ∀ b ∈ rs, Used g H b) {b : Nat} (h : Used (setG g dst s) (upd u H) b) :
    Used g H b ∨ inRange key b = true := by
  rcases h with (h | ⟨b', cs, h, hb⟩) | ⟨d, h⟩
  · cases e : upd u H b with
    | none => exact absurd e h
    | some vb =>
      rcases upd_cases e with hp | ⟨_, hp⟩
      · rcases hu b (idsU_key hp) with h | h
        · exact .inr h
        · exact .inl (hr b h)
      · exact .inl (.inl (.inl (by rw [hp]; simp)))
  · rcases upd_cases h with hp | ⟨_, hp⟩
    · rcases hu b (idsU_cells hp b hb) with h | h
      · exact .inr h
      · exact .inl (hr b h)
    · exact .inl (.inl (.inr ⟨b', cs, hp, hb⟩))
  · have old : b ∈ s.ids → Used g H b ∨ inRange key b = true := fun h => by
      rcases hs b h with h | h
      · exact .inr h
      · exact .inl (hr b h)
    cases dst with
    | none => exact .inl (.inr ⟨d, h⟩)
    | some e =>
      simp only [setG] at h
      split at h
      · exact old h
      · exact .inl (.inr ⟨d, h⟩)

theorem Acts1.used {o : Oper} {ids : List Nat} (h : Acts1 T Γ o key g H s u ids) {dst : Option Nat} {b : Nat} (hb : Used (setG g dst s) (upd u H) b) : Used g H b ∨ inRange key b = true := by
  cases h with
  | pick c x y t ho hc =>
    refine used_upd (rs := (arg g x).ids ++ (arg g y).ids) ?_ (fun b hb => by simp [idsU] at hb) ?_ hb
    · intro b hb
      cases t <;> simp at hb <;> simp [hb]
    · intro b hb
      rcases List.mem_append.1 hb with hb | hb <;> exact arg_used _ hb
  | ev s u h ht =>
    obtain ⟨h1, h2⟩ := tidy_ok ht
    exact used_upd h1 h2 (fun b hb => reach_used hb) hb
theorem Acts.used {ops : List Oper} {o : Oper} {ids : List Nat} (h : Acts T Γ ops o key g H s u ids) {b : Nat} (hb : Used (setG g o.dst s) (upd u H) b) : Used g H b ∨ inRange key b = true := by
  cases h with
  | plain s u ids _ h => exact h.used hb
  | yes s u ids j d want _ _ _ h => exact h.used hb
  | off j d want a _ _ _ => exact used_upd (rs := []) (fun b hb => by simp [SV.ids] at hb) (fun b hb => by simp [idsU] at hb) (fun b hb => by simp at hb) hb
  | no j d want t _ _ _ _ => exact used_upd (rs := []) (fun b hb => by simp [SV.ids] at hb) (fun b hb => by simp [idsU] at hb) (fun b hb => by simp at hb) hb

theorem dstOf_bind (ops : Array Oper) (j : Nat) : (ops[j]?).bind (·.dst) = dstOf ops.toList j := by
  unfold dstOf
  rw [Array.getElem?_toList]
  cases ops[j]? <;> rfl

theorem bool_slot {m : Nat → Place} {x : SV} {v : Value} {b : Bool} (h : V m x v) (hx : x = .val (.bool b)) : v = .bool b := by
  subst hx; cases h; rfl

theorem act1_wp (hT : TOk P T) (hΓ : GOks P Γ) {Q : Exit → Act → World → Prop} {o : Oper} {ids : List Nat} {K : Act → World → Prop} (hact : Acts1 T Γ o key g H s u ids) (hl : Live E m Imm g H a w)
    (hu : ∀ b, Used g H b → inRange key b = false) (hd : ∀ d, o.dst = some d → d < E.wide) (hlow : E.low ≤ key) (hk : ∀ a' w' m' Imm', Live E m' Imm' (setG g o.dst s) (upd u H) a' w' → K a' w') : o.wpIn (fr rd) 0 P a w K Q := by
  refine oper_in (fun c hc => ?_) ?_
  · cases hact with
    | pick c x y t ho hc' => rw [ho] at hc; cases hc
    | ev s u h ht => unfold evS ev at h; simp only [hc] at h; exact h.fail
  have away : Away key g := fun d b hb => hu b (.inr ⟨d, hb⟩)
  have clean : Clean key H := fun b hb hU => by rw [hu b (.inl hU)] at hb; cases hb
  cases hact with
  | pick c x y t ho hc =>
    have h1 : a.eval c = .bool t := bool_slot (arg_V hl.slots c) hc
    have h2 : V m (bif t then arg g x else arg g y) (if t then a.eval x else a.eval y) := by cases t <;> exact arg_V hl.slots _
    unfold Oper.wp
    have h3 : (execOp a.eval o).run P w = .ok (.value (if t then a.eval x else a.eval y)) w := by
      simp only [execOp, ho, h1]
      cases t <;> simp [asBool]
    rw [h3]
    exact hk _ _ m Imm (hl.put (.refl hl.since.rel key) h2 away hd hlow)
  | ev s u h ht =>
    refine op_wp (H := hidden (reach g H o) H) hT hΓ (hl.since.rel.hidden _) ?_ hl.slots away h ?_
    · rintro b hb (h | ⟨b', cs, h, hx⟩)
      · refine clean b hb (.inl fun e => h ?_)
        unfold hidden
        rw [e]
        cases memN b (reach g H o) <;> rfl
      · exact clean b hb (.inr ⟨b', cs, (hidden_some h).2, hx⟩)
    · intro v m' Imm' w' hv hs
      refine hk _ _ m' Imm' (hl.put (hs.frame hl.since.rel ?_ clean) hv away hd hlow)
      intro p hp
      rcases (tidy_ok ht).2 _ (idsU_key hp) with h | h
      · exact .inr h
      · exact .inl h

theorem act_wp (hT : TOk P T) (hΓ : GOks P Γ) {Q : Exit → Act → World → Prop} {ops : Array Oper} {i : Nat} {o : Oper} {ids : List Nat} {K : Act → World → Prop} (ho : ops[i]? = some o) (hact : Acts T Γ ops.toList o key g H s u ids) (hl : Live E m Imm g H a w)
    (hu : ∀ b, Used g H b → inRange key b = false) (hd : ∀ d, o.dst = some d → d < E.wide) (hlow : E.low ≤ key) (hk : ∀ a' w' m' Imm', Live E m' Imm' (setG g o.dst s) (upd u H) a' w' → K a' w') : wpOpIn (fr rd) 0 P ops Q i K a w := by
  unfold wpOpIn
  simp only [ho]
  have away : Away key g := fun d b hb => hu b (.inr ⟨d, hb⟩)
  have yield : ∀ {j d : Nat} {t : Bool}, dstOf ops.toList j = some d → g d = .val (.bool t) → yielded ops a.tmps j = some t := by
    intro j d t hj hg
    unfold yielded
    rw [dstOf_bind, hj]
    have h1 := bool_slot (hl.slots d) hg
    rw [Array.getD_eq_getD_getElem?] at h1
    simp only [Option.bind_some]
    cases e : a.tmps[d]? with
    | none => rw [e] at h1; simp [undef] at h1
    | some v => rw [e] at h1; simp at h1; subst h1; rfl
  cases hact with
  | off j d want b hg hj hv =>
    have h1 := hl.slots d
    rw [hv] at h1
    have hy : yielded ops a.tmps j = none := by
      unfold yielded
      rw [dstOf_bind, hj]
      rw [Array.getD_eq_getD_getElem?] at h1
      simp only [Option.bind_some]
      cases e : a.tmps[d]? with
      | none => rfl
      | some v => rw [e] at h1; simp at h1; cases h1; rfl
    have hw : ¬ Region.wanted o (yielded ops a.tmps) = true := by simp [Region.wanted, hg, hy]
    rw [if_neg hw]
    refine ⟨fun _ _ => trivial, ?_⟩
    exact hk _ _ m Imm (hl.put (.refl hl.since.rel key) (.val _) away hd hlow)
  | plain s u ids hg h =>
    have hw : Region.wanted o (yielded ops a.tmps) = true := by simp [Region.wanted, hg]
    rw [if_pos hw]
    exact act1_wp hT hΓ h hl hu hd hlow hk
  | yes s u ids j d want hg hj hv h =>
    have hw : Region.wanted o (yielded ops a.tmps) = true := by simp [Region.wanted, hg, yield hj hv]
    rw [if_pos hw]
    exact act1_wp hT hΓ h hl hu hd hlow hk
  | no j d want t hg hj hv ht =>
    have hw : ¬ Region.wanted o (yielded ops a.tmps) = true := by simp [Region.wanted, hg, yield hj hv, ht]
    rw [if_neg hw]
    refine ⟨fun _ _ => trivial, ?_⟩
    exact hk _ _ m Imm (hl.put (.refl hl.since.rel key) (.val _) away hd hlow)

/-! Some of the operations are done: S. -/
structure Planned (T : TT) (Γ : List (Nat × GC)) (ops : List Oper) (p : Plan) (key0 : Nat) : Prop where
  n : p.n = ops.length
  D : ∀ i, p.D i = dstOf ops i
  act : ∀ j o, ops[j]? = some o → Acts T Γ ops o (key0 + j * stride) (p.G (upto j)) (p.H (upto j)) (p.r j).s (p.r j).u (p.r j).ids
def Fresh (p : Plan) (key0 : Nat) (S : Nat → Bool) : Prop := ∀ b, Used (p.G S) (p.H S) b → b < key0 ∨ ∃ k, k < p.n ∧ S k = true ∧ inRange (key0 + k * stride) b = true
theorem Fresh.out {p : Plan} {key0 : Nat} {S : Nat → Bool} (h : Fresh p key0 S) {i : Nat} (hi : S i = false) : ∀ b, Used (p.G S) (p.H S) b → inRange (key0 + i * stride) b = false := by
  intro b hb
  cases e : inRange (key0 + i * stride) b with
  | false => rfl
  | true =>
    rw [inRange_iff] at e
    rcases h b hb with h | ⟨k, hk, hS, h⟩
    · omega
    · rw [inRange_iff] at h
      have : k = i := by
        unfold stride at e h
        omega
      subst this
      rw [hi] at hS; cases hS
theorem Fresh.next {ops : List Oper} {p : Plan} {key0 : Nat} {S S' : Nat → Bool} {i : Nat} {o : Oper} (h : Fresh p key0 S) (hi : i < p.n) (hS : S' i = true) (hne : ∀ k, k < p.n → k ≠ i → S' k = S k) (hi0 : S i = false)
    (hact : Acts T Γ ops o (key0 + i * stride) (p.G S) (p.H S) (p.r i).s (p.r i).u (p.r i).ids) (hG : p.G S' = setG (p.G S) o.dst (p.r i).s) (hH : p.H S' = upd (p.r i).u (p.H S)) : Fresh p key0 S' := by
  intro b hb
  rw [hG, hH] at hb
  rcases hact.used hb with hb | hb
  · rcases h b hb with h | ⟨k, hk, h1, h2⟩
    · exact .inl h
    · refine .inr ⟨k, hk, ?_, h2⟩
      rw [hne k hk (by rintro rfl; rw [hi0] at h1; cases h1)]
      exact h1
  · exact .inr ⟨i, hi, hS, hb⟩

theorem text_wp (hT : TOk P T) (hΓ : GOks P Γ) {Q : Exit → Act → World → Prop} {ops : Array Oper} {p : Plan} {key0 : Nat} (hp : Planned T Γ ops.toList p key0) (hlow : E.low ≤ key0) (hd : ∀ o ∈ ops, ∀ d, o.dst = some d → d < E.wide)
    (hQ : ∀ a w m Imm, Live E m Imm (p.G (upto p.n)) (p.H (upto p.n)) a w → Q .normal a w) : ∀ (l i : Nat), i + l = p.n → ∀ a w m Imm, Live E m Imm (p.G (upto i)) (p.H (upto i)) a w → Fresh p key0 (upto i) →
      wpOpsIn (fr rd) 0 P ops Q (List.range' i l) a w
  | 0, i, hi, a, w, m, Imm, hl, _ => by
    have : i = p.n := by omega
    subst this
    exact hQ a w m Imm hl
  | l + 1, i, hi, a, w, m, Imm, hl, hf => by
    rw [List.range'_succ, wpOpsIn_cons]
    have hlt : i < ops.size := by have := hp.n; simp at this; omega
    have ho : ops[i]? = some ops[i] := Array.getElem?_eq_getElem hlt
    have ho' : ops.toList[i]? = some ops[i] := by rw [Array.getElem?_toList]; exact ho
    have hact := hp.act i ops[i] ho'
    have hD : p.D i = (ops[i]).dst := by rw [hp.D, dstOf_at ho']
    have hin : i < p.n := by omega
    refine act_wp hT hΓ ho hact hl (hf.out (by simp [upto])) (hd _ (Array.getElem_mem _)) (by omega) ?_
    intro a' w' m' Imm' hl'
    have hG := p.G_next hin
    rw [hD] at hG
    have hH := p.H_next hin
    rw [← hG, ← hH] at hl'
    exact text_wp hT hΓ hp hlow hd hQ l (i + 1) (by omega) a' w' m' Imm' hl' (hf.next hin (by simp [upto]) (fun k _ h => by simp only [upto]; congr 1; simp only [eq_iff_iff]; omega) (by simp [upto]) hact hG hH)

/-! Each order. -/
inductive Anc (ops : List Oper) : Nat → Nat → Prop
  | edge (j : Nat) (o : Oper) (e : Edge) (ho : ops[j]? = some o) (he : e ∈ o.after) (hb : Region.binds .any e = true) : Anc ops e.on j
  | far (k j : Nat) (o : Oper) (e : Edge) (ho : ops[j]? = some o) (he : e ∈ o.after) (hb : Region.binds .any e = true) (h : Anc ops k e.on) : Anc ops k j
structure Free (ops : List Oper) (p : Plan) (j k : Nat) (oj ok : Oper) : Prop where
  dj : ∀ d, oj.dst = some d → d ∉ insOf ops ok
  dk : ∀ d, ok.dst = some d → d ∉ insOf ops oj
  dd : ∀ d, oj.dst = some d → ok.dst ≠ some d
  kj : ∀ b, (lkN (p.r j).u b).isSome = true → b ∉ needOf ok (p.r k).ids
  kk : ∀ b, (lkN (p.r k).u b).isSome = true → b ∉ needOf oj (p.r j).ids
  kd : ∀ b, (lkN (p.r j).u b).isSome = true → (lkN (p.r k).u b).isSome = false
structure DrawOk (ops : List Oper) (p : Plan) : Prop where
  edge : ∀ j o e, ops[j]? = some o → e ∈ o.after → Region.binds .any e = true → e.on < j
  free : ∀ j k oj ok, k < j → ops[j]? = some oj → ops[k]? = some ok → Anc ops k j ∨ Free ops p j k oj ok

def Closed (ops : List Oper) (S : Nat → Bool) : Prop := ∀ j o e, ops[j]? = some o → S j = true → e ∈ o.after → Region.binds .any e = true → S e.on = true
theorem Anc.closed {ops : List Oper} {S : Nat → Bool} (hS : Closed ops S) {k j : Nat} (h : Anc ops k j) (hj : ∀ o e, ops[j]? = some o → e ∈ o.after → Region.binds .any e = true → S e.on = true) : S k = true := by
  induction h with
  | edge j o e ho he hb => exact hj o e ho he hb
  | far k j o e ho he hb _ ih => exact ih fun o' e' ho' he' hb' => hS _ o' e' ho' (hj o e ho he hb) he' hb'

def cnt (W : Nat → Bool) : Nat → Nat
  | 0 => 0
  | n + 1 => cnt W n + (if W n then 0 else 1)
theorem cnt_lt {W W' : Nat → Bool} {i : Nat} : ∀ n, i < n → W i = false → W' i = true → (∀ k, k ≠ i → W' k = W k) → cnt W' n < cnt W n
  | 0, h, _, _, _ => absurd h (Nat.not_lt_zero _)
  | n + 1, h, h1, h2, h3 => by
    have le : ∀ n, cnt W' n ≤ cnt W n := by
      intro n
      induction n with
      | zero => exact Nat.le_refl _
      | succ n ih =>
        simp only [cnt]
        by_cases e : n = i
        · subst e; simp [h1, h2]; omega
        · rw [h3 n e]; omega
    simp only [cnt]
    by_cases e : n = i
    · subst e
      have := le n
      simp [h1, h2]; omega
    · have := cnt_lt n (by omega) h1 h2 h3
      rw [h3 n e]; omega
theorem cnt_zero {W : Nat → Bool} : ∀ n, cnt W n = 0 → ∀ k, k < n → W k = true
  | 0, _, k, hk => absurd hk (Nat.not_lt_zero _)
  | n + 1, h, k, hk => by
    simp only [cnt] at h
    by_cases e : k = n
    · subst e
      cases hW : W k with
      | true => rfl
      | false => rw [hW] at h; simp at h
    · exact cnt_zero n (by omega) k (by omega)

def done (listed : Array Bool) (k : Nat) : Bool := listed.getD k false
theorem done_put {listed : Array Bool} {i k : Nat} (hi : i < listed.size) : done (listed.setIfInBounds i true) k = if k = i then true else done listed k := by
  unfold done
  by_cases e : k = i
  · subst e; simp [hi]
  · simp only [e, if_false]
    rw [Array.getD_eq_getD_getElem?, Array.getElem?_setIfInBounds_ne (by omega), Array.getD_eq_getD_getElem?]

theorem draw_wp (hT : TOk P T) (hΓ : GOks P Γ) {Q : Exit → Act → World → Prop} {ops : Array Oper} {p : Plan} {key0 : Nat} (hp : Planned T Γ ops.toList p key0) (hlow : E.low ≤ key0) (hok : DrawOk ops.toList p) (hd : ∀ o ∈ ops, ∀ d, o.dst = some d → d < E.wide)
    (hQ : ∀ a w m Imm, Live E m Imm (p.G (upto p.n)) (p.H (upto p.n)) a w → Q .normal a w) : ∀ (fuel : Nat) (listed : Array Bool), listed.size = p.n → cnt (done listed) p.n ≤ fuel → Closed ops.toList (done listed) →
      ∀ a w m Imm, Live E m Imm (p.G (done listed)) (p.H (done listed)) a w → Fresh p key0 (done listed) → wpAnyIn (fr rd) 0 P .any ops Q fuel listed a w := by
  have hn : p.n = ops.size := by simpa using hp.n
  have getL : ∀ {i : Nat} {o : Oper}, ops[i]? = some o → ops.toList[i]? = some o := fun h => by rw [Array.getElem?_toList]; exact h
  -- nothing is left
  have finish : ∀ (listed : Array Bool) a w m Imm, (∀ k, k < p.n → done listed k = true) → Live E m Imm (p.G (done listed)) (p.H (done listed)) a w → Q .normal a w := by
    intro listed a w m Imm hall hl
    refine hQ a w m Imm ?_
    rw [show p.G (upto p.n) = p.G (done listed) from funext fun d => Plan.G_congr fun k hk _ => by simp [upto, hk, hall k hk],
      show p.H (upto p.n) = p.H (done listed) from funext fun d => Plan.H_congr fun k hk _ => by simp [upto, hk, hall k hk]]
    exact hl
  -- while something is left, something is ready
  have some_ready : ∀ (listed : Array Bool), listed.size = p.n → Region.ready .any ops listed = [] → ∀ k, k < p.n → done listed k = true := by
    intro listed hsz hr k
    induction k using Nat.strongRecOn with
    | ind k ih =>
    intro hk
    cases e : done listed k with
    | true => rfl
    | false =>
      exfalso
      have hlt : k < ops.size := by omega
      have hmem : k ∈ Region.ready .any ops listed := by
        rw [mem_ready]
        refine ⟨?_, ops[k], Array.getElem?_eq_getElem hlt, ?_⟩
        · unfold done at e
          rw [Array.getD_eq_getD_getElem?, Array.getElem?_eq_getElem (by omega)] at e ⊢
          simpa using e
        · intro ed he hb
          have hlt2 := hok.edge k _ ed (getL (Array.getElem?_eq_getElem hlt)) he hb
          exact ih _ hlt2 (by omega)
      rw [hr] at hmem
      cases hmem
  intro fuel
  induction fuel with
  | zero =>
    intro listed hsz hc _ a w m Imm hl _
    have hall := cnt_zero (W := done listed) p.n (by omega)
    refine ⟨?_, finish listed a w m Imm hall hl⟩
    rw [List.eq_nil_iff_forall_not_mem]
    intro k hk
    rw [mem_ready] at hk
    obtain ⟨h1, o, h2, _⟩ := hk
    have hlt := (Array.getElem?_eq_some_iff.1 h2).1
    have h3 := hall k (by omega)
    unfold done at h3
    rw [Array.getD_eq_getD_getElem?, Array.getElem?_eq_getElem (by omega)] at h1 h3
    simp at h1 h3
    rw [h1] at h3; cases h3
  | succ fuel ih =>
    intro listed hsz hc hcl a w m Imm hl hf
    refine ⟨fun hr => finish listed a w m Imm (some_ready listed hsz hr) hl, fun i hi => ?_⟩
    rw [mem_ready] at hi
    obtain ⟨h1, o, ho, hedge⟩ := hi
    have hlt : i < ops.size := (Array.getElem?_eq_some_iff.1 ho).1
    have hin : i < p.n := by omega
    have hi0 : done listed i = false := by
      unfold done
      rw [Array.getD_eq_getD_getElem?, Array.getElem?_eq_getElem (by omega)] at h1 ⊢
      simpa using h1
    have hoL := getL ho
    have hD : p.D i = o.dst := by rw [hp.D, dstOf_at hoL]
    have opAt : ∀ k, k < p.n → ∃ ok, ops.toList[k]? = some ok := fun k hk => ⟨ops[k], getL (Array.getElem?_eq_getElem (by omega))⟩
    -- what is done and comes after, or is not done and comes before, leaves it alone
    have after : ∀ k ok, i < k → ops.toList[k]? = some ok → done listed k = true → Free ops.toList p k i ok o := by
      intro k ok hk hok' hS
      rcases hok.free k i ok o hk hok' hoL with h | h
      · have := h.closed hcl (fun o' e ho' he hb => hcl k o' e ho' hS he hb)
        rw [hi0] at this; cases this
      · exact h
    have before : ∀ k ok, k < i → ops.toList[k]? = some ok → done listed k = false → Free ops.toList p i k o ok := by
      intro k ok hk hok' hS
      rcases hok.free i k o ok hk hoL hok' with h | h
      · have := h.closed hcl (fun o' e ho' he hb => by
          rw [hoL] at ho'; obtain rfl := Option.some.inj ho'
          exact hedge e he hb)
        rw [hS] at this; cases this
      · exact h
    have hact : Acts T Γ ops.toList o (key0 + i * stride) (p.G (done listed)) (p.H (done listed)) (p.r i).s (p.r i).u (p.r i).ids := by
      refine (hp.act i o hoL).frame ?_ ?_
      · intro d hd'
        refine Plan.G_congr fun k hk hdk => ?_
        obtain ⟨ok, hok'⟩ := opAt k hk
        rw [hp.D, dstOf_at hok'] at hdk
        simp only [upto]
        by_cases hki : k < i
        · simp only [hki, decide_true]
          cases e : done listed k with
          | true => rfl
          | false => exact absurd hd' ((before k ok hki hok' e).dk d hdk)
        · simp only [hki, decide_false]
          cases e : done listed k with
          | false => rfl
          | true =>
            have hne : k ≠ i := by rintro rfl; rw [hi0] at e; cases e
            exact absurd hd' ((after k ok (by omega) hok' e).dj d hdk)
      · intro b hb
        refine Plan.H_congr fun k hk hdk => ?_
        obtain ⟨ok, hok'⟩ := opAt k hk
        simp only [upto]
        by_cases hki : k < i
        · simp only [hki, decide_true]
          cases e : done listed k with
          | true => rfl
          | false => exact absurd hb ((before k ok hki hok' e).kk b hdk)
        · simp only [hki, decide_false]
          cases e : done listed k with
          | false => rfl
          | true =>
            have hne : k ≠ i := by rintro rfl; rw [hi0] at e; cases e
            exact absurd hb ((after k ok (by omega) hok' e).kj b hdk)
    have hput : ∀ k, done (listed.setIfInBounds i true) k = if k = i then true else done listed k := fun k => done_put (by omega)
    have hne : ∀ k, k < p.n → k ≠ i → done (listed.setIfInBounds i true) k = done listed k := fun k _ h => by rw [hput, if_neg h]
    have hS : done (listed.setIfInBounds i true) i = true := by rw [hput, if_pos rfl]
    have hG : p.G (done (listed.setIfInBounds i true)) = setG (p.G (done listed)) o.dst (p.r i).s := by
      rw [← hD]
      refine Plan.G_put hin hS hne ?_
      intro k d h2 h3 h4 h5
      obtain ⟨ok, hok'⟩ := opAt k h3
      rw [hp.D, dstOf_at hok']
      intro h6
      rw [hD] at h5
      exact (after k ok h2 hok' h4).dd d h6 h5
    have hH : p.H (done (listed.setIfInBounds i true)) = upd (p.r i).u (p.H (done listed)) := by
      refine Plan.H_put hin hS hne ?_
      intro k b h2 h3 h4 h5
      obtain ⟨ok, hok'⟩ := opAt k h3
      cases e : (lkN (p.r k).u b).isSome with
      | false => rfl
      | true => rw [(after k ok h2 hok' h4).kd b e] at h5; cases h5
    refine act_wp hT hΓ ho hact hl (hf.out hi0) (hd o (Array.mem_of_getElem? ho)) (by omega) ?_
    intro a' w' m' Imm' hl'
    rw [← hG, ← hH] at hl'
    refine ih _ (by simpa using hsz) ?_ ?_ a' w' m' Imm' hl' (hf.next hin hS hne hi0 hact hG hH)
    · have := cnt_lt (W := done listed) (W' := done (listed.setIfInBounds i true)) p.n hin hi0 hS (fun k h => by rw [hput, if_neg h])
      omega
    · intro j oj e hj hjS he hb
      rw [hput]
      split
      · rfl
      · by_cases hji : j = i
        · subst hji
          rw [hoL] at hj
          obtain rfl := Option.some.inj hj
          exact hedge e he hb
        · rw [hput, if_neg hji] at hjS
          exact hcl j oj e hj hjS he hb
end Go.Proofs.Ythbmllekbbfobaa.Sx

/-! The look at a region whose order is drawn; a region as the evaluator runs it. -/
namespace Go.Proofs.Ythbmllekbbfobaa.Sx
open Go
set_option linter.unusedVariables false
set_option linter.unusedSimpArgs false

theorem bitAt_eq (m j : Nat) : bitAt m j = m.testBit j := by
  unfold bitAt
  rw [beqN, Nat.testBit_eq_decide_div_mod_eq]
  show decide (m >>> j % 2 = 1) = _
  rw [Nat.shiftRight_eq_div_pow]
theorem bit_lor (m n j : Nat) : bitAt (Nat.lor m n) j = (bitAt m j || bitAt n j) := by
  rw [bitAt_eq, bitAt_eq, bitAt_eq]; exact Nat.testBit_or m n j
theorem bit_one (i j : Nat) (h : bitAt (Nat.shiftLeft 1 i) j = true) : j = i := by
  rw [bitAt_eq] at h
  have h : (1 <<< i).testBit j = true := h
  rw [Nat.testBit_shiftLeft] at h
  simp only [Bool.and_eq_true, decide_eq_true_eq] at h
  have h1 := h.1
  by_cases e : j - i = 0
  · omega
  · have h2 := h.2
    rw [Nat.testBit_lt_two_pow (Nat.one_lt_two_pow e)] at h2
    cases h2
theorem bit_zero (j : Nat) : bitAt 0 j = false := by rw [bitAt_eq]; simp
theorem meets_no {l r : List Nat} (h : meets l r = false) : ∀ a ∈ l, a ∉ r := by
  induction l with
  | nil => intro a ha; simp at ha
  | cons b l ih =>
    unfold meets at h
    cases e : memN b r with
    | true => rw [e] at h; cases h
    | false =>
      rw [e] at h
      intro a ha
      rcases List.mem_cons.1 ha with rfl | ha
      · intro hr; rw [(memN_iff a r).2 hr] at e; cases e
      · exact ih h a ha
theorem withN_eq (n : Nat) (K : Nat → Bool) : withN n K = K n := by cases n <;> rfl

theorem maskAt_ok {tbl : List It} {j k : Nat} (h : bitAt (maskAt tbl j) k = true) : ∃ a ∈ tbl, a.ix = j ∧ bitAt a.mask k = true := by
  induction tbl with
  | nil => rw [show maskAt [] j = 0 from rfl, bit_zero] at h; cases h
  | cons a l ih =>
    unfold maskAt at h
    rw [beqN] at h
    by_cases e : a.ix = j
    · simp [e] at h
      exact ⟨a, by simp, e, h⟩
    · simp [e] at h
      obtain ⟨b, hb, h⟩ := ih h
      exact ⟨b, by simp [hb], h⟩
theorem maskOf_ok {tbl : List It} {es : List Edge} {k : Nat} (h : bitAt (maskOf tbl es) k = true) : ∃ e ∈ es, Region.binds .any e = true ∧ (k = e.on ∨ bitAt (maskAt tbl e.on) k = true) := by
  induction es with
  | nil => rw [show maskOf tbl [] = 0 from rfl, bit_zero] at h; cases h
  | cons e l ih =>
    unfold maskOf at h
    cases hb : Region.binds .any e with
    | false =>
      rw [hb] at h
      obtain ⟨e', he', h⟩ := ih h
      exact ⟨e', by simp [he'], h⟩
    | true =>
      rw [hb] at h
      dsimp only [cond] at h
      rw [bit_lor, bit_lor] at h
      simp only [Bool.or_eq_true] at h
      rcases h with (h | h) | h
      · exact ⟨e, by simp, hb, .inr h⟩
      · exact ⟨e, by simp, hb, .inl (bit_one _ _ h)⟩
      · obtain ⟨e', he', h⟩ := ih h
        exact ⟨e', by simp [he'], h⟩

structure ItOk (ops : List Oper) (p : Plan) (a : It) (o : Oper) : Prop where
  ho : ops[a.ix]? = some o
  mask : ∀ k, bitAt a.mask k = true → Anc ops k a.ix
  dst : a.dst = o.dst.toList
  ins : a.ins = insOf ops o
  ids : a.ids = needOf o (p.r a.ix).ids
  keys : a.keys = (p.r a.ix).u.map (·.1)

theorem key_in {u : List (Nat × Option VB)} {b : Nat} (h : (lkN u b).isSome = true) : b ∈ u.map (·.1) := by
  obtain ⟨v, hv⟩ := Option.isSome_iff_exists.1 h
  exact List.mem_map.2 ⟨(b, v), lkN_some hv, rfl⟩
theorem key_out {u : List (Nat × Option VB)} {b : Nat} (h : b ∉ u.map (·.1)) : (lkN u b).isSome = false := by
  cases e : (lkN u b).isSome with
  | false => rfl
  | true => exact absurd (key_in e) h

theorem freeIt_ok {ops : List Oper} {p : Plan} {a b : It} {oa ob : Oper} (ha : ItOk ops p a oa) (hb : ItOk ops p b ob) (h : freeIt a b = true) : Free ops p a.ix b.ix oa ob := by
  unfold freeIt at h
  simp only [Bool.not_eq_true', Bool.or_eq_false_iff] at h
  obtain ⟨⟨⟨⟨⟨h1, h2⟩, h3⟩, h4⟩, h5⟩, h6⟩ := h
  have h1 := meets_no h1
  have h2 := meets_no h2
  have h3 := meets_no h3
  have h4 := meets_no h4
  have h5 := meets_no h5
  have h6 := meets_no h6
  rw [ha.dst] at h1 h3
  rw [hb.dst] at h2 h3
  rw [hb.ins] at h1
  rw [ha.ins] at h2
  rw [ha.keys] at h4 h6
  rw [hb.keys] at h5 h6
  rw [hb.ids] at h4
  rw [ha.ids] at h5
  refine ⟨fun d hd => h1 d (by simp [hd]), fun d hd => h2 d (by simp [hd]), fun d hd hd' => h3 d (by simp [hd]) (by simp [hd']), fun b hk => h4 b (key_in hk), fun b hk => h5 b (key_in hk), fun b hk => key_out (h6 b (key_in hk))⟩
theorem freeOf_ok {a : It} {tbl : List It} (h : freeOf a tbl = true) : ∀ b ∈ tbl, bitAt a.mask b.ix = true ∨ freeIt a b = true := by
  induction tbl with
  | nil => intro b hb; simp at hb
  | cons c l ih =>
    unfold freeOf at h
    rw [Bool.and_eq_true] at h
    intro b hb
    rcases List.mem_cons.1 hb with rfl | hb
    · cases e : bitAt a.mask b.ix with
      | true => exact .inl rfl
      | false => have := h.1; rw [e] at this; exact .inr this
    · exact ih h.2 b hb

theorem draws_ok {ops : List Oper} {p : Plan} : ∀ (l : List Oper) (i : Nat) (r : List (List Nat × List Nat)) (tbl : List It), draws ops l i r tbl = true → (∀ j, l[j]? = ops[i + j]?) → (∀ j x, r[j]? = some x → x = (p.r (i + j)).seen) →
    (∀ a ∈ tbl, ∃ o, ItOk ops p a o) → (∀ k, k < i → ∃ a ∈ tbl, a.ix = k) →
    ∀ j oj, i ≤ j → j < i + l.length → ops[j]? = some oj → (∀ e ∈ oj.after, Region.binds .any e = true → e.on < j) ∧ ∀ k ok, k < j → ops[k]? = some ok → Anc ops k j ∨ Free ops p j k oj ok
  | [], i, r, tbl, _, _, _, _, _ => fun j oj h1 h2 => by simp at h2; omega
  | o :: l, i, [], tbl, h, _, _, _, _ => by simp [draws] at h
  | o :: l, i, (ids, ks) :: r, tbl, h, hl, hr, ht, hfull => by
    unfold draws at h
    rw [withN_eq] at h
    dsimp only at h
    rw [Bool.and_eq_true, Bool.and_eq_true] at h
    obtain ⟨h1, h2, h3⟩ := h
    have ho : ops[i]? = some o := by simpa using (hl 0).symm
    have hs := hr 0 (ids, ks) rfl
    have hi : ItOk ops p ⟨i, maskOf tbl o.after.toList, o.dst.toList, insOf ops o, needOf o ids, ks⟩ o := by
      refine ⟨ho, ?_, rfl, rfl, congrArg (needOf o) (congrArg Prod.fst hs), congrArg Prod.snd hs⟩
      intro k hk
      obtain ⟨e, he, hb, hk⟩ := maskOf_ok hk
      have he' : e ∈ o.after := by simpa using he
      rcases hk with rfl | hk
      · exact .edge i o e ho he' hb
      · obtain ⟨a, ha, hix, hk⟩ := maskAt_ok hk
        obtain ⟨oa, hoa⟩ := ht a ha
        exact .far k i o e ho he' hb (hix ▸ hoa.mask k hk)
    have ih := draws_ok (p := p) l (i + 1) r _ h3 (fun j => by have := hl (j + 1); rw [show i + 1 + j = i + (j + 1) by omega]; simpa using this)
      (fun j x hx => by have := hr (j + 1) x (by simpa using hx); rw [this]; congr 2; omega)
      (fun a ha => by
        rcases List.mem_cons.1 ha with rfl | ha
        · exact ⟨o, hi⟩
        · exact ht a ha)
      (fun k hk => by
        by_cases e : k = i
        · exact ⟨_, List.mem_cons_self, e.symm⟩
        · obtain ⟨a, ha, h⟩ := hfull k (by omega)
          exact ⟨a, List.mem_cons_of_mem _ ha, h⟩)
    intro j oj hij hjl hoj
    by_cases e : j = i
    · subst e
      rw [ho] at hoj
      obtain rfl := Option.some.inj hoj
      refine ⟨fun ed he hb => ?_, fun k ok hk hok => ?_⟩
      · have := (List.all_eq_true.1 h1) ed (by simpa using he)
        rw [hb] at this
        simp only [Bool.not_true, Bool.false_or, Nat.blt_eq] at this
        exact this
      · obtain ⟨b, hb, hbk⟩ := hfull k hk
        obtain ⟨ob, hob⟩ := ht b hb
        have hob' := hob.ho
        rw [hbk, hok] at hob'
        obtain rfl := Option.some.inj hob'
        rcases freeOf_ok h2 b hb with h | h
        · exact .inl (hbk ▸ hi.mask _ h)
        · exact .inr (hbk ▸ freeIt_ok hi hob h)
    · exact ih j oj (by omega) (by simp only [List.length_cons] at hjl; omega) hoj

variable {P : Program} {T : TT} {Γ : List (Nat × GC)} {E : Env} {rd : Option Nat}

theorem run_eql_nilS (w : World) (t e : TypeId) (a : Option Addr) (n c : Nat) (h : P.underlying t = some (.slice e)) : (binOp .eql t (.slice a n c) (.slice none 0 0)).run P w = .ok (.bool a.isNone) w := Lib.run_eql_slice_nil w t e a n c 0 0 h
theorem run_neq_nilS (w : World) (t e : TypeId) (a : Option Addr) (n c : Nat) (h : P.underlying t = some (.slice e)) : (binOp .neq t (.slice a n c) (.slice none 0 0)).run P w = .ok (.bool (!a.isNone)) w := run_neq_slice_nil_any w t e a n c 0 0 h

theorem Since.drawn {Z I0 : Nat → Prop} {w0 : World} {m : Nat → Place} {Imm : Nat → Prop} {H : VH} {w : World} (h : Since Z I0 w0 m Imm H w) (n : Nat) : Since Z I0 w0 m Imm H { w with drawn := n } := by
  have cv : ∀ {c : CS} {v : Value}, CV Imm w c v → CV Imm { w with drawn := n } c v := fun h => h.stays (w := w) (w' := { w with drawn := n }) (fun _ h => h) (fun _ _ => rfl)
  have hold : ∀ {p : Place} {vb : VB}, Hold m Imm w p vb → Hold m Imm { w with drawn := n } p vb := fun h => h.stays (w := w) (w' := { w with drawn := n }) (fun _ h => h) (fun _ _ => rfl) (fun _ => rfl) (fun _ _ _ _ => rfl)
  exact ⟨⟨fun b vb e => hold (h.rel.hold b vb e), h.rel.dist, h.rel.apart, h.rel.imm⟩, h.mono, h.zone, h.own, h.keep, ⟨h.calm.os, h.calm.tape, h.calm.output, h.calm.size⟩, h.big⟩
theorem Live.drawn {m : Nat → Place} {Imm : Nat → Prop} {g : Nat → SV} {H : VH} {a : Act} {w : World} (h : Live E m Imm g H a w) (n : Nat) : Live E m Imm g H a { w with drawn := n } :=
  ⟨h.since.drawn n, h.slots, h.size, Marks.mono (w := w) (w' := { w with drawn := n }) (fun _ h1 _ h3 => ⟨h1, h3⟩) h.defers, h.same⟩

/-- What is so at a place of the code. -/
structure Inv (E : Env) (S : St) (m : Nat → Place) (Imm : Nat → Prop) (a : Act) (w : World) : Prop where
  live : Live E m Imm S.get S.look a w
  low : ∀ b, Used S.get S.look b → b < S.next
  low0 : E.low ≤ S.next
  kn : KnOK S

def planOf (ops : List Oper) (rs : List Rec) (S : St) : Plan := ⟨ops.length, dstOf ops, fun i => rs.getD i ⟨.undef, [], []⟩, S.get, S.look⟩

theorem drawn_wp (hT : TOk P T) (hΓ : GOks P Γ) (hm : P.follows .mixedOrders = true) {Q : Exit → Act → World → Prop} {id : Nat} {ops : Array Oper} {S : St} {K : St → Prop} {a : Act} {w : World} {m : Nat → Place} {Imm : Nat → Prop}
    (hd : ∀ o ∈ ops, ∀ d, o.dst = some d → d < E.wide) (h : runOps T Γ true ops.toList ops.toList S.next S [] fun acc S' => draws ops.toList ops.toList 0 acc.reverse [] = true ∧ K S') (hI : Inv E S m Imm a w)
    (hQ : ∀ a w m Imm S', K S' → Inv E S' m Imm a w → (∃ u, S'.hp = u ++ S.hp) → S.next ≤ S'.next → (∀ d, (∀ o ∈ ops, o.dst ≠ some d) → S'.get d = S.get d) → Q .normal a w) : (Code.region id ops true).wpIn (fr rd) 0 P Q a w := by
  obtain ⟨rs, S', h1, h2, h3, h4, h5, h6⟩ := runOps_ok ops.toList S.next S [] h hI.kn
  generalize hp : planOf ops.toList rs S = p
  have hn : p.n = ops.toList.length := by subst hp; rfl
  have hD : ∀ i, p.D i = dstOf ops.toList i := by subst hp; intro i; rfl
  have hr : ∀ j r, rs[j]? = some r → p.r j = r := by
    subst hp
    intro j r hj
    show rs.getD j _ = r
    rw [List.getD_eq_getElem?_getD, hj]; rfl
  have hg0 : p.g0 = S.get := by subst hp; rfl
  have hH0 : p.H0 = S.look := by subst hp; rfl
  obtain ⟨h7, h8, h9⟩ := h1.plan (p := p) (key0 := S.next) hn hD 0 (by simp) (by simp) (fun j r hj => by simpa using hr j r hj) (by rw [p.G_zero, hg0]) (by rw [p.H_zero, hH0]) (by simp)
  have planned : Planned T Γ ops.toList p S.next := ⟨hn, hD, fun j o hj => h7 j o (Nat.zero_le _) hj⟩
  have fresh0 : Fresh p S.next (upto 0) := by
    intro b hb
    rw [p.G_zero, p.H_zero, hg0, hH0] at hb
    exact .inl (hI.low b hb)
  -- the end
  have fin : ∀ i, i ≤ p.n → Fresh p S.next (upto i) := by
    intro i
    induction i with
    | zero => intro _; exact fresh0
    | succ i ih =>
      intro hi
      have hlt : i < ops.size := by simp at hn; omega
      have ho : ops.toList[i]? = some ops[i] := by rw [Array.getElem?_toList]; exact Array.getElem?_eq_getElem hlt
      have hG := p.G_next (i := i) (by omega)
      rw [hD, dstOf_at ho] at hG
      exact (ih (by omega)).next (by omega) (by simp [upto]) (fun k _ h => by simp only [upto]; congr 1; simp only [eq_iff_iff]; omega) (by simp [upto]) (planned.act i _ ho) hG (p.H_next (by omega))
  have getEnd : ∀ d, (∀ o ∈ ops, o.dst ≠ some d) → S'.get d = S.get d := by
    intro d hd
    rw [h8, ← hg0, ← p.G_zero]
    refine Plan.G_congr fun k hk hdk => ?_
    exfalso
    rw [hD] at hdk
    unfold dstOf at hdk
    cases ho : ops.toList[k]? with
    | none => rw [ho] at hdk; cases hdk
    | some o => rw [ho] at hdk; exact hd o (by simpa using List.mem_of_getElem? ho) hdk
  have goal : ∀ (hK : K S') a w m Imm, Live E m Imm (p.G (upto p.n)) (p.H (upto p.n)) a w → Q .normal a w := by
    intro hK a w m Imm hl
    refine hQ a w m Imm S' hK ⟨by rw [h8, h9]; exact hl, ?_, by rw [h4]; exact Nat.le_trans hI.low0 (Nat.le_add_right _ _), h6⟩ ⟨_, h5⟩ (by rw [h4]; omega) getEnd
    intro b hb
    rw [h8, h9] at hb
    rw [h4]
    rcases fin p.n (Nat.le_refl _) b hb with h | ⟨k, hk, _, h⟩
    · omega
    · rw [inRange_iff] at h
      rw [← hn]
      have : k * stride + stride ≤ p.n * stride := by rw [← Nat.succ_mul]; exact Nat.mul_le_mul_right _ hk
      omega
  obtain ⟨hdr, hK⟩ := h3
  simp only [List.append_nil, List.reverse_reverse] at hdr
  have hok : DrawOk ops.toList p := by
    have := draws_ok (p := p) ops.toList 0 _ [] hdr (by simp) (fun j x hx => by
      rw [List.getElem?_map] at hx
      cases e : rs[j]? with
      | none => rw [e] at hx; cases hx
      | some r => rw [e] at hx; obtain rfl := Option.some.inj hx; rw [Nat.zero_add, hr j r e]) (by simp) (by simp)
    refine ⟨fun j o e ho he hb => ?_, fun j k oj ok hk hoj hok => ?_⟩
    · exact (this j o (Nat.zero_le _) (by have := (List.getElem?_eq_some_iff.1 ho).1; omega) ho).1 e he hb
    · exact (this j oj (Nat.zero_le _) (by have := (List.getElem?_eq_some_iff.1 hoj).1; omega) hoj).2 k ok hk hok
  refine wpIn_region_any hm ?_
  have none_done : ∀ k, done (Array.replicate ops.size false) k = false := by
    intro k
    unfold done
    rw [Array.getD_eq_getD_getElem?, Array.getElem?_replicate]
    split <;> rfl
  have hz : p.G (done (Array.replicate ops.size false)) = p.G (upto 0) := funext fun d => Plan.G_congr fun k _ _ => by rw [none_done]; simp [upto]
  have hz' : p.H (done (Array.replicate ops.size false)) = p.H (upto 0) := funext fun d => Plan.H_congr fun k _ _ => by rw [none_done]; simp [upto]
  refine draw_wp hT hΓ planned hI.low0 hok hd (goal hK) ops.size _ (by simp at hn; simp [hn]) ?_ ?_ a _ m Imm ?_ ?_
  · have : ∀ (W : Nat → Bool) n, cnt W n ≤ n := by
      intro W n
      induction n with
      | zero => exact Nat.le_refl _
      | succ n ih => simp only [cnt]; split <;> omega
    have := this (done (Array.replicate ops.size false)) p.n
    simp at hn; omega
  · intro j o e _ hj
    rw [none_done] at hj; cases hj
  · rw [hz, hz', p.G_zero, p.H_zero, hg0, hH0]
    exact hI.live.drawn _
  · intro b hb
    rw [hz, hz'] at hb
    rcases fresh0 b hb with h | ⟨k, _, h, _⟩
    · exact .inl h
    · simp [upto] at h

/-- One operation of a region whose order is the text's. -/
theorem stepS_wp (hT : TOk P T) (hΓ : GOks P Γ) {Q : Exit → Act → World → Prop} {ops : Array Oper} {i key : Nat} {o : Oper} {S : St} {K : List Nat → List Nat → St → Prop} {K' : Act → World → Prop} {m : Nat → Place} {Imm : Nat → Prop} {a : Act} {w : World} (ho : ops[i]? = some o)
    (h : stepS T Γ ops.toList o key S K) (hk : KnOK S) (hl : Live E m Imm S.get S.look a w) (hu : ∀ b, Used S.get S.look b → inRange key b = false) (hd : ∀ d, o.dst = some d → d < E.wide) (hlow : E.low ≤ key)
    (hn : ∀ a' w' m' Imm' S' ids ks, K ids ks S' → KnOK S' → Live E m' Imm' S'.get S'.look a' w' → S'.next = S.next → (∃ u, S'.hp = u ++ S.hp) → (∀ d, o.dst ≠ some d → S'.get d = S.get d) → (∀ b, Used S'.get S'.look b → Used S.get S.look b ∨ inRange key b = true) → K' a' w') : wpOpIn (fr rd) 0 P ops Q i K' a w := by
  have away : Away key S.get := fun d b hb => hu b (.inr ⟨d, hb⟩)
  have put : ∀ {v : Bool} {S2 : St}, S2.get = setG S.get o.dst (.val (.bool v)) → S2.look = upd [] S.look → (∀ d, o.dst ≠ some d → S2.get d = S.get d) ∧ ∀ b, Used S2.get S2.look b → Used S.get S.look b ∨ inRange key b = true := by
    intro v S2 h1 h2
    refine ⟨fun d hd => ?_, fun b hb => .inl ?_⟩
    · rw [h1]
      unfold setG
      cases e : o.dst with
      | none => rfl
      | some d' =>
        simp only
        rw [if_neg (by rintro rfl; exact hd e)]
    · rcases hb with hb | ⟨d, hb⟩
      · rw [h2, upd_nil] at hb; exact .inl hb
      · rw [h1] at hb
        unfold setG at hb
        cases e : o.dst with
        | none => rw [e] at hb; exact .inr ⟨d, hb⟩
        | some d' =>
          rw [e] at hb
          simp only at hb
          split at hb
          · simp [SV.ids] at hb
          · exact .inr ⟨d, hb⟩
  unfold stepS at h
  split at h
  · rename_i neg x hc
    -- what is held against nil
    have hop : o.guard = none ∧ ∃ t e y ty, P.underlying t = some (.slice e) ∧ x = arg S.get y ∧ ((neg = false ∧ o.op = .binOp .eql t y (.const (.slice none 0 0)) ty) ∨ (neg = true ∧ o.op = .binOp .neq t y (.const (.slice none 0 0)) ty)) := by
      unfold nilCmp at hc
      split at hc
      · rename_i hg
        split at hc
        · rename_i op t y ty hop
          split at hc
          · rename_i e _ _ _ _ hti
            have hd' : P.underlying t = some (.slice e) := (hT t _ hti).desc
            split at hc
            · cases hc; exact ⟨hg, t, e, y, ty, hd', rfl, .inl ⟨rfl, hop⟩⟩
            · cases hc; exact ⟨hg, t, e, y, ty, hd', rfl, .inr ⟨rfl, hop⟩⟩
            · cases hc
          · cases hc
        · cases hc
      · cases hc
    obtain ⟨hg, t, e, y, ty, hund, rfl, hop⟩ := hop
    have hx := arg_V hl.slots y
    have hrun : ∀ ad n c, a.eval y = .slice ad n c → (execOp a.eval o).run P w = .ok (.value (.bool (bif neg then !ad.isNone else ad.isNone))) w := by
      intro ad n c hy
      have e1 : a.eval (.const (.slice none 0 0)) = .slice none 0 0 := rfl
      rcases hop with ⟨rfl, hop⟩ | ⟨rfl, hop⟩
      · simp only [execOp, hop, hy, e1]
        simp [eqGuard, run_eql_nilS w t e ad n c hund]
      · simp only [execOp, hop, hy, e1]
        simp [eqGuard, run_neq_nilS w t e ad n c hund]
    have hwant : Region.wanted o (yielded ops a.tmps) = true := by simp [Region.wanted, hg]
    have fin : ∀ (v : Bool), (execOp a.eval o).run P w = .ok (.value (.bool v)) w → goOn S o.dst (.val (.bool v)) [] (K [] []) → wpOpIn (fr rd) 0 P ops Q i K' a w := by
      intro v hr hgo
      obtain ⟨S2, h8, h9, h10, h11, h12, h13⟩ := goOn_ok hgo hk
      obtain ⟨p1, p2⟩ := put h9 h10
      unfold wpOpIn
      simp only [ho]
      rw [if_pos hwant]
      refine oper_in (fun c hc => ?_) ?_
      · rcases hop with ⟨_, hop⟩ | ⟨_, hop⟩ <;> (rw [hop] at hc; cases hc)
      unfold Oper.wp
      rw [hr]
      refine hn _ _ m Imm S2 [] [] h8 h13 ?_ h11 ⟨[], h12⟩ p1 p2
      rw [h9, h10, upd_nil]
      exact hl.put (.refl hl.since.rel key) (.val _) away hd hlow
    split at h
    · rename_i hxe
      rw [hxe] at hx
      cases hv : a.eval y with
      | slice ad n c =>
        rw [hv] at hx
        cases hx
        refine fin (!neg) ?_ h
        have := hrun none 0 0 hv
        cases neg <;> simpa using this
      | _ => rw [hv] at hx; cases hx
    · split at h
      · rename_i n hsl
        -- is it nil?
        have hcase : ∃ ad c, a.eval y = .slice ad n c ∧ (ad.isNone = true → n = 0) := by
          generalize arg S.get y = xs at hx hsl
          generalize a.eval y = v at hx ⊢
          unfold slLen at hsl
          split at hsl
          · rename_i b
            split at hsl
            · rename_i own k xs hb
              cases hsl
              obtain ⟨_, p2, _⟩ := hl.since.rel.hold b _ hb
              cases hx with
              | slF _ c _ _ => rw [p2]; exact ⟨_, c, rfl, fun h => by cases h⟩
              | slF0 _ ad h1 => rw [h1] at p2; rw [← p2]; exact ⟨ad, 0, rfl, fun _ => rfl⟩
            · cases hsl
          · cases hsl
            cases hx with
            | slP _ _ _ c _ _ _ _ => exact ⟨_, c, rfl, fun h => by cases h⟩
            | slP0 _ _ ad _ => exact ⟨_, 0, rfl, fun _ => rfl⟩
          · cases hsl
        obtain ⟨ad, c, hv, hn0⟩ := hcase
        exact fin _ (hrun ad n c hv) (h ad.isNone hn0)
      · exact h.elim
  · obtain ⟨s, u, ids, S2, h1, h2, h3, h4, h5, h6, h7⟩ := step_ok h hk
    refine act_wp hT hΓ ho h1 hl hu hd hlow ?_
    intro a' w' m' Imm' hl'
    refine hn a' w' m' Imm' S2 ids _ h2 h7 (by rw [h3, h4]; exact hl') h5 ⟨u, h6⟩ (fun d hd => ?_) (fun b hb => ?_)
    · rw [h3]
      unfold setG
      cases e : o.dst with
      | none => rfl
      | some d' =>
        simp only
        rw [if_neg (by rintro rfl; exact hd e)]
    · rw [h3, h4] at hb
      exact h1.used hb

theorem seq_wp (hT : TOk P T) (hΓ : GOks P Γ) {Q : Exit → Act → World → Prop} {ops : Array Oper} {S0 : St} {K : St → Prop} (hd : ∀ o ∈ ops, ∀ d, o.dst = some d → d < E.wide)
    (hQ : ∀ a w m Imm S', K S' → Inv E S' m Imm a w → (∃ u, S'.hp = u ++ S0.hp) → S0.next ≤ S'.next → (∀ d, (∀ o ∈ ops, o.dst ≠ some d) → S'.get d = S0.get d) → Q .normal a w) : ∀ (l : List Oper) (i key : Nat) (S : St) (acc : Seen), ops.toList.drop i = l → S0.next ≤ key → E.low ≤ key →
      runOps T Γ false ops.toList l key S acc (fun _ S' => K S') → KnOK S → ∀ a w m Imm, Live E m Imm S.get S.look a w → (∀ b, Used S.get S.look b → b < key) → (∃ u, S.hp = u ++ S0.hp) → (∀ d, (∀ o ∈ ops, o.dst ≠ some d) → S.get d = S0.get d) →
      wpOpsIn (fr rd) 0 P ops Q (List.range' i (ops.size - i)) a w
  | [], i, key, S, acc, hl, hkey, hlow, h, hk, a, w, m, Imm, hL, hfr, hhp, hget => by
    have hi : ops.size ≤ i := by
      have := congrArg List.length hl
      simp at this
      omega
    rw [show ops.size - i = 0 by omega]
    obtain ⟨tp, hp, n, kn⟩ := S
    have h : K ⟨tp, hp, key, kn⟩ := h
    exact hQ a w m Imm _ h ⟨hL, hfr, hlow, hk⟩ hhp hkey hget
  | o :: l, i, key, S, acc, hl, hkey, hlow, h, hk, a, w, m, Imm, hL, hfr, hhp, hget => by
    have hlt : i < ops.size := by
      have := congrArg List.length hl
      simp at this
      omega
    have ho : ops[i]? = some o := by
      have : (ops.toList.drop i)[0]? = some o := by rw [hl]; rfl
      rw [List.getElem?_drop, Nat.add_zero, Array.getElem?_toList] at this
      exact this
    have hmem : o ∈ ops := Array.mem_of_getElem? ho
    have hl' : ops.toList.drop (i + 1) = l := by rw [← List.drop_drop, hl]; rfl
    rw [show ops.size - i = (ops.size - (i + 1)) + 1 by omega, List.range'_succ, wpOpsIn_cons]
    rw [runOps_cons] at h
    have h : stepS T Γ ops.toList o key S fun ids ks S => match key + stride with
      | 0 => Fail "key"
      | n + 1 => runOps T Γ false ops.toList l (n + 1) S acc (fun _ S' => K S') := h
    refine stepS_wp hT hΓ ho h hk hL (fun b hb => ?_) (hd o hmem) hlow ?_
    · have := hfr b hb
      cases e : inRange key b with
      | false => rfl
      | true => rw [inRange_iff] at e; omega
    · intro a' w' m' Imm' S' ids ks hK hk' hL' hnx hhp' hget' hus
      have hn : ∃ n, key + stride = n + 1 := ⟨key + 63, rfl⟩
      obtain ⟨n, hn⟩ := hn
      rw [hn] at hK
      dsimp only at hK
      rw [← hn] at hK
      refine seq_wp hT hΓ hd hQ l (i + 1) (key + stride) S' acc hl' (by omega) (by omega) hK hk' a' w' m' Imm' hL' (fun b hb => ?_) ?_ (fun d hd' => (hget' d (hd' o hmem)).trans (hget d hd'))
      · rcases hus b hb with h | h
        · have := hfr b h; omega
        · rw [inRange_iff] at h; exact h.2
      · obtain ⟨u, hu⟩ := hhp
        obtain ⟨u', hu'⟩ := hhp'
        exact ⟨u' ++ u, by rw [hu', hu, List.append_assoc]⟩

theorem region_wp (hT : TOk P T) (hΓ : GOks P Γ) (hm : P.follows .mixedOrders = true) {Q : Exit → Act → World → Prop} {id : Nat} {ops : Array Oper} {dr : Bool} {S : St} {K : St → Prop} {a : Act} {w : World} {m : Nat → Place} {Imm : Nat → Prop}
    (hd : ∀ o ∈ ops, ∀ d, o.dst = some d → d < E.wide) (h : runOps T Γ dr ops.toList ops.toList S.next S [] fun acc S' => bif dr then draws ops.toList ops.toList 0 acc.reverse [] = true ∧ K S' else K S') (hI : Inv E S m Imm a w)
    (hQ : ∀ a w m Imm S', K S' → Inv E S' m Imm a w → (∃ u, S'.hp = u ++ S.hp) → S.next ≤ S'.next → (∀ d, (∀ o ∈ ops, o.dst ≠ some d) → S'.get d = S.get d) → Q .normal a w) : (Code.region id ops dr).wpIn (fr rd) 0 P Q a w := by
  cases dr with
  | true => exact drawn_wp hT hΓ hm hd h hI hQ
  | false =>
    refine wpIn_region ?_
    rw [List.range_eq_range']
    exact seq_wp hT hΓ hd hQ ops.toList 0 S.next S [] rfl (Nat.le_refl _) hI.low0 h hI.kn a w m Imm hI.live hI.low ⟨[], rfl⟩ (fun _ _ => rfl)
end Go.Proofs.Ythbmllekbbfobaa.Sx

/-! Blocks under other numbers. -/
namespace Go.Proofs.Ythbmllekbbfobaa.Sx
open Go
set_option linter.unusedVariables false
set_option linter.unusedSimpArgs false

mutual
def SV.ren (f : Nat → Nat) : SV → SV
  | .undef => .undef
  | .val x => .val x
  | .ptr b j => .ptr (f b) j
  | .elt b i j => .elt (f b) i j
  | .slF b => .slF (f b)
  | .slP b i n => .slP (f b) i n
  | .slC b n => .slC (f b) n
  | .agg cs => .agg (renL f cs)
  | .tup cs => .tup (renL f cs)
  | .fn g a c => .fn g (renL f a) (renL f c)
def renL (f : Nat → Nat) : List SV → List SV
  | [] => []
  | x :: l => x.ren f :: renL f l
end
def VB.ren (f : Nat → Nat) : VB → VB
  | .cells cs => .cells (renL f cs)
  | .row o k xs => .row o k xs
def VB.ids : VB → List Nat
  | .cells cs => idsL cs
  | .row _ _ _ => []

mutual
theorem V.map {m m2 : Nat → Place} {f : Nat → Nat} : ∀ (s : SV) {v : Value}, V m s v → (∀ b ∈ s.ids, m2 (f b) = m b) → V m2 (s.ren f) v
  | .undef, v, _, _ => .undef v
  | .val x, v, h, _ => by cases h; exact .val x
  | .ptr b j, v, h, hm => by
    have e := hm b (by simp [SV.ids])
    cases h; rw [← e]; exact .ptr _ j
  | .elt b i j, v, h, hm => by
    have e := hm b (by simp [SV.ids])
    cases h; rw [← e]; exact .elt _ i j (by assumption)
  | .slF b, v, h, hm => by
    have e := hm b (by simp [SV.ids])
    cases h with
    | slF _ c h1 h2 => rw [← e] at h1 h2 ⊢; exact .slF _ c h1 h2
    | slF0 _ a h1 => rw [← e] at h1; exact .slF0 _ a h1
  | .slP b i n, v, h, hm => by
    have e := hm b (by simp [SV.ids])
    cases h with
    | slP _ _ _ c h1 h2 h3 h4 => rw [← e] at h2 h3 h4 ⊢; exact .slP _ i n c h1 h2 h3 h4
    | slP0 _ _ a h1 => rw [← e] at h1; exact .slP0 _ i a h1
  | .slC b n, v, h, hm => by
    have e := hm b (by simp [SV.ids])
    cases h; rw [← e]; exact .slC _ n _ (by assumption)
  | .agg cs, v, h, hm => by cases h with | agg _ vs h => exact .agg _ vs (Vs.map cs h (by simpa [SV.ids] using hm))
  | .tup cs, v, h, hm => by cases h with | tup _ vs h => exact .tup _ vs (Vs.map cs h (by simpa [SV.ids] using hm))
  | .fn g a c, v, h, hm => by
    cases h with
    | fn _ _ _ va vc h1 h2 => exact .fn _ _ _ va vc (Vs.map a h1 fun b hb => hm b (by simp [SV.ids, hb])) (Vs.map c h2 fun b hb => hm b (by simp [SV.ids, hb]))
theorem Vs.map {m m2 : Nat → Place} {f : Nat → Nat} : ∀ (l : List SV) {r : List Value}, Vs m l r → (∀ b ∈ idsL l, m2 (f b) = m b) → Vs m2 (renL f l) r
  | [], r, h, _ => by cases h; exact .nil
  | s :: l, r, h, hm => by
    cases h with
    | cons _ x _ r hx hr => exact .cons _ _ _ _ (V.map s hx fun b hb => hm b (by simp [idsL, hb])) (Vs.map l hr fun b hb => hm b (by simp [idsL, hb]))
end
mutual
theorem V.unmap {m m2 : Nat → Place} {f : Nat → Nat} : ∀ (s : SV) {v : Value}, V m (s.ren f) v → (∀ b ∈ s.ids, m2 b = m (f b)) → V m2 s v
  | .undef, v, _, _ => .undef v
  | .val x, v, h, _ => by cases h; exact .val x
  | .ptr b j, v, h, hm => by
    have e := hm b (by simp [SV.ids])
    cases h; rw [← e]; exact .ptr _ j
  | .elt b i j, v, h, hm => by
    have e := hm b (by simp [SV.ids])
    cases h; rw [← e]; exact .elt _ i j (by assumption)
  | .slF b, v, h, hm => by
    have e := hm b (by simp [SV.ids])
    cases h with
    | slF _ c h1 h2 => rw [← e] at h1 h2 ⊢; exact .slF _ c h1 h2
    | slF0 _ a h1 => rw [← e] at h1; exact .slF0 _ a h1
  | .slP b i n, v, h, hm => by
    have e := hm b (by simp [SV.ids])
    cases h with
    | slP _ _ _ c h1 h2 h3 h4 => rw [← e] at h2 h3 h4 ⊢; exact .slP _ i n c h1 h2 h3 h4
    | slP0 _ _ a h1 => rw [← e] at h1; exact .slP0 _ i a h1
  | .slC b n, v, h, hm => by
    have e := hm b (by simp [SV.ids])
    cases h; rw [← e]; exact .slC _ n _ (by assumption)
  | .agg cs, v, h, hm => by cases h with | agg _ vs h => exact .agg _ vs (Vs.unmap cs h (by simpa [SV.ids] using hm))
  | .tup cs, v, h, hm => by cases h with | tup _ vs h => exact .tup _ vs (Vs.unmap cs h (by simpa [SV.ids] using hm))
  | .fn g a c, v, h, hm => by
    cases h with
    | fn _ _ _ va vc h1 h2 => exact .fn _ _ _ va vc (Vs.unmap a h1 fun b hb => hm b (by simp [SV.ids, hb])) (Vs.unmap c h2 fun b hb => hm b (by simp [SV.ids, hb]))
theorem Vs.unmap {m m2 : Nat → Place} {f : Nat → Nat} : ∀ (l : List SV) {r : List Value}, Vs m (renL f l) r → (∀ b ∈ idsL l, m2 b = m (f b)) → Vs m2 l r
  | [], r, h, _ => by cases h; exact .nil
  | s :: l, r, h, hm => by
    cases h with
    | cons _ x _ r hx hr => exact .cons _ _ _ _ (V.unmap s hx fun b hb => hm b (by simp [idsL, hb])) (Vs.unmap l hr fun b hb => hm b (by simp [idsL, hb]))
end
mutual
theorem ren_ids (f : Nat → Nat) : ∀ (s : SV), (s.ren f).ids = s.ids.map f
  | .undef => rfl
  | .val _ => rfl
  | .ptr _ _ => rfl
  | .elt _ _ _ => rfl
  | .slF _ => rfl
  | .slP _ _ _ => rfl
  | .slC _ _ => rfl
  | .agg cs => by simp [SV.ren, SV.ids, renL_ids f cs]
  | .tup cs => by simp [SV.ren, SV.ids, renL_ids f cs]
  | .fn g a c => by simp [SV.ren, SV.ids, renL_ids f a, renL_ids f c]
theorem renL_ids (f : Nat → Nat) : ∀ (l : List SV), idsL (renL f l) = (idsL l).map f
  | [] => rfl
  | s :: l => by simp [renL, idsL, ren_ids f s, renL_ids f l]
end
theorem renL_length (f : Nat → Nat) : ∀ l : List SV, (renL f l).length = l.length
  | [] => rfl
  | _ :: l => by simp [renL, renL_length f l]
mutual
theorem ren_id {f : Nat → Nat} : ∀ (s : SV), (∀ b ∈ s.ids, f b = b) → s.ren f = s
  | .undef, _ => rfl
  | .val _, _ => rfl
  | .ptr b _, h => by simp [SV.ren, h b (by simp [SV.ids])]
  | .elt b _ _, h => by simp [SV.ren, h b (by simp [SV.ids])]
  | .slF b, h => by simp [SV.ren, h b (by simp [SV.ids])]
  | .slP b _ _, h => by simp [SV.ren, h b (by simp [SV.ids])]
  | .slC b _, h => by simp [SV.ren, h b (by simp [SV.ids])]
  | .agg cs, h => by simp [SV.ren, renL_id cs (by simpa [SV.ids] using h)]
  | .tup cs, h => by simp [SV.ren, renL_id cs (by simpa [SV.ids] using h)]
  | .fn g a c, h => by simp [SV.ren, renL_id a (fun b hb => h b (by simp [SV.ids, hb])), renL_id c (fun b hb => h b (by simp [SV.ids, hb]))]
theorem renL_id {f : Nat → Nat} : ∀ (l : List SV), (∀ b ∈ idsL l, f b = b) → renL f l = l
  | [], _ => rfl
  | s :: l, h => by simp [renL, ren_id s (fun b hb => h b (by simp [idsL, hb])), renL_id l (fun b hb => h b (by simp [idsL, hb]))]
end

theorem Hold.map {m m2 : Nat → Place} {Imm : Nat → Prop} {w : World} {p : Place} {f : Nat → Nat} {vb : VB} (h : Hold m Imm w p vb) (hm : ∀ b ∈ vb.ids, m2 (f b) = m b) : Hold m2 Imm w p (vb.ren f) := by
  cases vb with
  | cells cs =>
    obtain ⟨h0, arr, t, h1, h2⟩ := h
    exact ⟨h0, arr, t, h1, Vs.map cs h2 hm⟩
  | row o k xs => exact h
theorem Hold.unmap {m m2 : Nat → Place} {Imm : Nat → Prop} {w : World} {p : Place} {f : Nat → Nat} {vb : VB} (h : Hold m Imm w p (vb.ren f)) (hm : ∀ b ∈ vb.ids, m2 b = m (f b)) : Hold m2 Imm w p vb := by
  cases vb with
  | cells cs =>
    obtain ⟨h0, arr, t, h1, h2⟩ := h
    exact ⟨h0, arr, t, h1, Vs.unmap cs h2 hm⟩
  | row o k xs => exact h
theorem Own.ren {p : Place} {f : Nat → Nat} {vb : VB} : Own p (vb.ren f) ↔ Own p vb := by
  cases vb with
  | cells cs => exact Iff.rfl
  | row o k xs => exact Iff.rfl

/-- What a state shows under other numbers: those below lim are the old ones. -/
structure Refit (H1 H0 : VH) (lim : Nat) (u : List (Nat × Option VB)) (f : Nat → Nat) : Prop where
  low : ∀ b, UsedIn H0 b → b < lim
  same : ∀ b, b < lim → f b = b
  told : ∀ b vb, lkN u b = some (some vb) → H1 (f b) = some (vb.ren f)
  rest : ∀ b, b < lim → lkN u b = none → H0 b ≠ none → H1 b = H0 b
  inj : ∀ b b' vb vb', lkN u b = some (some vb) → lkN u b' = some (some vb') → f b = f b' → b = b'
  sep : ∀ b vb b', lkN u b = some (some vb) → lkN u b' = none → b' < lim → H0 b' ≠ none → f b ≠ b'

theorem Refit.source {H1 H0 : VH} {lim : Nat} {u : List (Nat × Option VB)} {f : Nat → Nat} (h : Refit H1 H0 lim u f) {b : Nat} {vb : VB} (hb : upd u H0 b = some vb) :
    H1 (f b) = some (vb.ren f) ∧ ((lkN u b = some (some vb)) ∨ (lkN u b = none ∧ H0 b = some vb ∧ b < lim ∧ f b = b)) := by
  unfold upd at hb
  cases e : lkN u b with
  | some v =>
    rw [e] at hb
    simp only at hb
    subst hb
    exact ⟨h.told b vb e, .inl rfl⟩
  | none =>
    rw [e] at hb
    simp only at hb
    have hlt := h.low b (.inl (by rw [hb]; simp))
    refine ⟨?_, .inr ⟨rfl, hb, hlt, h.same b hlt⟩⟩
    rw [h.same b hlt, h.rest b hlt e (by rw [hb]; simp), hb]
    congr 1
    cases vb with
    | row => rfl
    | cells cs =>
      simp only [VB.ren]
      rw [renL_id cs fun x hx => h.same x (h.low x (.inr ⟨b, cs, hb, hx⟩))]
theorem Refit.rel {H1 H0 : VH} {lim : Nat} {u : List (Nat × Option VB)} {f : Nat → Nat} (h : Refit H1 H0 lim u f) {m : Nat → Place} {Imm : Nat → Prop} {w : World} (hR : Rel m Imm H1 w) : Rel (fun b => m (f b)) Imm (upd u H0) w := by
  refine ⟨?_, ?_, ?_, hR.imm⟩
  · intro b vb hb
    obtain ⟨h1, _⟩ := h.source hb
    exact (hR.hold (f b) _ h1).unmap fun _ _ => rfl
  · intro b b' vb vb' hb hb' o o' hne
    obtain ⟨h1, h2⟩ := h.source hb
    obtain ⟨h1', h2'⟩ := h.source hb'
    refine hR.dist (f b) (f b') _ _ h1 h1' (Own.ren.2 o) (Own.ren.2 o') fun e => hne ?_
    rcases h2 with h2 | ⟨h2, h3, h4, h5⟩ <;> rcases h2' with h2' | ⟨h2', h3', h4', h5'⟩
    · exact h.inj b b' vb vb' h2 h2' e
    · exact absurd (e.trans h5') (h.sep b vb b' h2 h2' h4' (by rw [h3']; simp))
    · exact absurd (e.symm.trans h5) (h.sep b' vb' b h2' h2 h4 (by rw [h3]; simp))
    · rw [← h5, ← h5', e]
  · intro b vb hb o
    obtain ⟨h1, _⟩ := h.source hb
    exact hR.apart (f b) _ h1 (Own.ren.2 o)
theorem Refit.own {H1 H0 : VH} {lim : Nat} {u : List (Nat × Option VB)} {f : Nat → Nat} (h : Refit H1 H0 lim u f) {Z : Nat → Prop} {m : Nat → Place} (hz : ∀ b vb, H1 b = some vb → Own (m b) vb → Z (m b).blk) {b : Nat} {vb : VB}
    (hb : upd u H0 b = some vb) (o : Own (m (f b)) vb) : Z (m (f b)).blk := by
  obtain ⟨h1, _⟩ := h.source hb
  exact hz (f b) _ h1 (Own.ren.2 o)
theorem Refit.since {H1 H0 : VH} {lim : Nat} {u : List (Nat × Option VB)} {f : Nat → Nat} (h : Refit H1 H0 lim u f) {Z I0 : Nat → Prop} {w0 w : World} {m : Nat → Place} {Imm : Nat → Prop} (hS : Since Z I0 w0 m Imm H1 w) : Since Z I0 w0 (fun b => m (f b)) Imm (upd u H0) w :=
  ⟨h.rel hS.rel, hS.mono, hS.zone, fun _ _ hb o => h.own hS.own hb o, hS.keep, hS.calm, hS.big⟩

/-! Numbers that are told by a list. -/
def tl (t : Ren) (b : Nat) : Nat := match lkN t b with
  | some c => c
  | none => b
/-- t' tells all that t tells. -/
def Ext (t t' : Ren) : Prop := ∀ j c, lkN t j = some c → lkN t' j = some c
theorem Ext.refl (t : Ren) : Ext t t := fun _ _ h => h
theorem Ext.trans {a b c : Ren} (h : Ext a b) (k : Ext b c) : Ext a c := fun _ _ e => k _ _ (h _ _ e)
theorem Ext.tl {t t' : Ren} (h : Ext t t') {j c : Nat} (e : lkN t j = some c) : tl t' j = c := by unfold Sx.tl; rw [h j c e]
theorem Ext.cons {t : Ren} {j c : Nat} (h : lkN t j = none) : Ext t ((j, c) :: t) := by
  intro i d e
  simp only [lkN]
  rw [beqN]
  by_cases hij : j = i
  · subst hij; rw [h] at e; cases e
  · rw [decide_eq_false hij]; exact e

theorem nodupN_ok : ∀ {l : List Nat}, nodupN l = true → l.Nodup
  | [], _ => List.nodup_nil
  | a :: l, h => by
    simp only [nodupN, Bool.and_eq_true, Bool.not_eq_true'] at h
    refine List.nodup_cons.2 ⟨fun ha => ?_, nodupN_ok h.2⟩
    rw [(memN_iff a l).2 ha] at h
    exact absurd h.1 (by simp)
theorem subN_ok : ∀ {l r : List Nat}, subN l r = true → ∀ a ∈ l, a ∈ r
  | [], _, _, a, ha => by simp at ha
  | b :: l, r, h, a, ha => by
    simp only [subN, Bool.and_eq_true, memN_iff] at h
    rcases List.mem_cons.1 ha with rfl | ha
    · exact h.1
    · exact subN_ok h.2 a ha
theorem lkN_mem {α : Type} {l : List (Nat × α)} {d : Nat} {v : α} (hn : (l.map (·.1)).Nodup) (h : (d, v) ∈ l) : lkN l d = some v := by
  induction l with
  | nil => simp at h
  | cons p l ih =>
    obtain ⟨e, x⟩ := p
    simp only [List.map_cons, List.nodup_cons] at hn
    simp only [lkN]
    rw [beqN]
    rcases List.mem_cons.1 h with h | h
    · cases h; simp
    · have : ¬ e = d := by
        rintro rfl
        exact hn.1 (List.mem_map.2 ⟨_, h, rfl⟩)
      rw [decide_eq_false this]
      exact ih hn.2 h
theorem lkN_snd {l : Ren} {j c : Nat} (h : lkN l j = some c) : c ∈ l.map (·.2) := List.mem_map.2 ⟨_, lkN_some h, rfl⟩
/-- Of numbers that are told, no two are told alike. -/
theorem lkN_inj : ∀ {l : Ren} {i j c : Nat}, (l.map (·.2)).Nodup → lkN l i = some c → lkN l j = some c → i = j
  | [], i, j, c, _, h, _ => by cases h
  | (e, x) :: l, i, j, c, hn, h, h' => by
    simp only [List.map_cons, List.nodup_cons] at hn
    simp only [lkN] at h h'
    rw [beqN] at h h'
    by_cases h1 : e = i <;> by_cases h2 : e = j
    · rw [← h1, ← h2]
    · simp only [h1, decide_true, cond_true, Option.some.injEq] at h
      rw [decide_eq_false h2] at h'
      subst h
      exact absurd (lkN_snd h') hn.1
    · simp only [h2, decide_true, cond_true, Option.some.injEq] at h'
      rw [decide_eq_false h1] at h
      subst h'
      exact absurd (lkN_snd h) hn.1
    · rw [decide_eq_false h1] at h
      rw [decide_eq_false h2] at h'
      exact lkN_inj hn.2 h h'
theorem undefs_lk : ∀ {l : List Nat} {d : Nat}, (d ∈ l ∧ lkN (undefs l) d = some .undef) ∨ (d ∉ l ∧ lkN (undefs l) d = none)
  | [], b => .inr ⟨by simp, rfl⟩
  | e :: l, b => by
    simp only [undefs, lkN]
    rw [beqN]
    by_cases h : e = b
    · subst h; exact .inl ⟨by simp, by simp⟩
    · rw [decide_eq_false h]
      rcases undefs_lk (l := l) (d := b) with ⟨h1, h2⟩ | ⟨h1, h2⟩
      · exact .inl ⟨by simp [h1], h2⟩
      · exact .inr ⟨by simp only [List.mem_cons, h1, or_false]; exact fun e' => h e'.symm, h2⟩
theorem nones_lk : ∀ {l : List Nat} {b : Nat}, (b ∈ l ∧ lkN (nones l) b = some none) ∨ (b ∉ l ∧ lkN (nones l) b = none)
  | [], b => .inr ⟨by simp, rfl⟩
  | e :: l, b => by
    simp only [nones, lkN]
    rw [beqN]
    by_cases h : e = b
    · subst h; exact .inl ⟨by simp, by simp⟩
    · rw [decide_eq_false h]
      rcases nones_lk (l := l) (b := b) with ⟨h1, h2⟩ | ⟨h1, h2⟩
      · exact .inl ⟨by simp [h1], h2⟩
      · exact .inr ⟨by simp only [List.mem_cons, h1, or_false]; exact fun e' => h e'.symm, h2⟩
end Go.Proofs.Ythbmllekbbfobaa.Sx

