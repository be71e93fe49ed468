import Derived.Test.YtncdakkigkmfjaaSxW
/-! What a region's operations do, each from the state that it finds; and that the evaluator tells it. -/
namespace Go.Proofs.Ytncdakkigkmfjaa.Sx
open Go
set_option linter.unusedVariables false
set_option linter.unusedSimpArgs false

/-- What is known of the slots that hold Bools is so. -/
def KnOK (S : St) : Prop := ∀ d b, S.know d = some b → S.get d = .val (.bool b)
def setG (g : Nat → SV) (d : Option Nat) (s : SV) : Nat → SV := match d with
  | none => g
  | some d => fun x => if x = d then s else g x

inductive Acts1 (T : TT) (Γ : List (Nat × GC)) (o : Oper) (key : Nat) (g : Nat → SV) (H : VH) : SV → List (Nat × Option VB) → List Nat → Prop
  | pick (c a b : Operand) (t : Bool) (ho : o.op = .pick c a b) (hc : arg g c = .val (.bool t)) : Acts1 T Γ o key g H (bif t then arg g a else arg g b) [] []
  | ev (s : SV) (u : List (Nat × Option VB)) (h : Holds (evS T Γ g H o key) s u) (ht : tidy (reach g H o) key s u = true) : Acts1 T Γ o key g H s u (reach g H o)
inductive Acts (T : TT) (Γ : List (Nat × GC)) (ops : List Oper) (o : Oper) (key : Nat) (g : Nat → SV) (H : VH) : SV → List (Nat × Option VB) → List Nat → Prop
  | plain (s : SV) (u : List (Nat × Option VB)) (ids : List Nat) (hg : o.guard = none) (h : Acts1 T Γ o key g H s u ids) : Acts T Γ ops o key g H s u ids
  | yes (s : SV) (u : List (Nat × Option VB)) (ids : List Nat) (j d : Nat) (want : Bool) (hg : o.guard = some (j, want)) (hj : dstOf ops j = some d) (hv : g d = .val (.bool want)) (h : Acts1 T Γ o key g H s u ids) : Acts T Γ ops o key g H s u ids
  | no (j d : Nat) (want t : Bool) (hg : o.guard = some (j, want)) (hj : dstOf ops j = some d) (hv : g d = .val (.bool t)) (ht : t ≠ want) : Acts T Γ ops o key g H (.val (.tuple #[])) [] []
  | off (j d : Nat) (want : Bool) (a : Array Value) (hg : o.guard = some (j, want)) (hj : dstOf ops j = some d) (hv : g d = .val (.tuple a)) : Acts T Γ ops o key g H (.val (.tuple #[])) [] []

theorem fB_eq (v : Option VB) (K : Option VB → Prop) : fB v K = K v := by
  cases v with
  | none => rfl
  | some v => cases v <;> simp [fB, fL_eq]
theorem fU_eq : ∀ (u hp : List (Nat × Option VB)) (K : List (Nat × Option VB) → Prop), fU u hp K = K (u ++ hp)
  | [], hp, K => rfl
  | (b, v) :: l, hp, K => by simp [fU, fN_eq, fB_eq, fU_eq l]
theorem fReach_eq : ∀ (n : Nat) (H : VH) (l : List Nat) (K : List Nat → Prop), fReach n H l K = K (reachN n H l)
  | 0, _, _, _ => rfl
  | n + 1, H, l, K => by simp only [fReach, fNs_eq, fReach_eq n, reachN]
theorem fT_eq : ∀ (l : List (Nat × SV)) (K : List (Nat × SV) → Prop), fT l K = K l
  | [], K => rfl
  | (d, s) :: l, K => by simp [fT, fS_eq, fT_eq l]
theorem fSt_eq (S : St) (K : St → Prop) : fSt S K = K S := by
  obtain ⟨tp, hp, n, kn⟩ := S
  simp [fSt, fT_eq, fU_eq, fN_eq]

theorem getT_cons (d : Nat) (s : SV) (tp : List (Nat × SV)) : getT ((d, s) :: tp) = fun x => if x = d then s else getT tp x := by
  funext x
  unfold getT
  simp only [lkN]
  rw [beqN]
  by_cases h : d = x
  · subst h; simp
  · have h' : ¬ x = d := fun e => h e.symm
    simp [h, h']
theorem lookH_append (u hp : List (Nat × Option VB)) : lookH (u ++ hp) = upd u (lookH hp) := by
  funext x
  unfold lookH upd
  rw [lkN_append]
  cases lkN u x <;> rfl
theorem knowT_cons (d : Nat) (o : Option Bool) (kn : List (Nat × Option Bool)) (x : Nat) : knowT ((d, o) :: kn) x = if x = d then o else knowT kn x := by
  unfold knowT
  simp only [lkN]
  rw [beqN]
  by_cases h : d = x
  · subst h; simp
  · have h' : ¬ x = d := fun e => h e.symm
    simp [h, h']

theorem goOn_ok {S : St} {d : Option Nat} {s : SV} {u : List (Nat × Option VB)} {K : St → Prop} (h : goOn S d s u K) (hk : KnOK S) :
    ∃ S', K S' ∧ S'.get = setG S.get d s ∧ S'.look = upd u S.look ∧ S'.next = S.next ∧ S'.hp = u ++ S.hp ∧ KnOK S' := by
  obtain ⟨tp, hp, n, kn⟩ := S
  unfold goOn at h
  simp only [fU_eq] at h
  cases d with
  | none => exact ⟨_, h, rfl, lookH_append u hp, rfl, rfl, hk⟩
  | some d =>
    simp only [fS_eq] at h
    refine ⟨_, h, getT_cons d s tp, lookH_append u hp, rfl, rfl, ?_⟩
    intro x b hx
    have hx : knowT ((d, none) :: kn) x = some b := hx
    rw [knowT_cons] at hx
    show getT ((d, s) :: tp) x = _
    rw [getT_cons]
    by_cases e : x = d
    · simp [e] at hx
    · simp only [e, if_false] at hx ⊢
      exact hk x b hx

theorem part_ok {S : St} {x : Operand} {K : Bool → St → Prop} (h : part S x K) (hk : KnOK S) :
    ∃ b S', arg S.get x = .val (.bool b) ∧ K b S' ∧ S'.get = S.get ∧ S'.look = S.look ∧ S'.next = S.next ∧ S'.hp = S.hp ∧ KnOK S' := by
  unfold part at h
  split at h
  · exact ⟨_, S, rfl, h, rfl, rfl, rfl, rfl, hk⟩
  · rename_i d
    split at h
    · rename_i b hb
      exact ⟨b, S, hk d b hb, h, rfl, rfl, rfl, rfl, hk⟩
    · split at h
      · rename_i t ht
        obtain ⟨tp, hp, n, kn⟩ := S
        have hkn : ∀ b, t = b → KnOK ⟨tp, hp, n, (d, some b) :: kn⟩ := by
          rintro b rfl x b' hx
          have hx : knowT ((d, some t) :: kn) x = some b' := hx
          rw [knowT_cons] at hx
          by_cases e : x = d
          · subst e
            simp at hx
            subst hx
            exact ht
          · simp only [e, if_false] at hx
            exact hk x b' hx
        cases hb : t with
        | true => exact ⟨true, _, by rw [← hb]; exact ht, h.1 hb, rfl, rfl, rfl, rfl, hkn true hb⟩
        | false => exact ⟨false, _, by rw [← hb]; exact ht, h.2 hb, rfl, rfl, rfl, rfl, hkn false hb⟩
      · exact h.elim
  · exact h.elim

theorem fin_ok {rs : List Nat} {key : Nat} {o : Oper} {S : St} {K : List Nat → List Nat → St → Prop} : ∀ {r : R}, fin rs key o S K r → ∃ s u, Holds r s u ∧ finOk rs key o S K s u
  | .ok s u, h => ⟨s, u, .mk _ _, h⟩
  | .vc c s u, h => ⟨s, u, .mkVc _ _ _ h.1.ok, h.2⟩
  | .br t a b, h => by
    have h : finBr t (fin rs key o S K a) (fin rs key o S K b) := h
    cases t with
    | true => obtain ⟨s, u, h1, h2⟩ := fin_ok (h.1 rfl); exact ⟨s, u, .yes _ _ _ _ _ rfl h1, h2⟩
    | false => obtain ⟨s, u, h1, h2⟩ := fin_ok (h.2 rfl); exact ⟨s, u, .no _ _ _ _ _ rfl h1, h2⟩
  | .fail _, h => h.elim

theorem ev_congr {T : TT} {Γ : List (Nat × GC)} {g g' : Nat → SV} {H : VH} {key : Nat} (o : Oper) (h : ∀ x ∈ o.op.operands, arg g' x = arg g x) : ev T Γ g' o H key = ev T Γ g o H key := by
  obtain ⟨dst, op, type, pos, after, guard⟩ := o
  have pairs : ∀ ps : Array (Nat × Operand), (∀ x ∈ ps.map (·.2), arg g' x = arg g x) → (ps.toList.map fun p => (p.1, arg g' p.2)) = (ps.toList.map fun p => (p.1, arg g p.2)) := fun ps hp =>
    List.map_congr_left fun p hm => by
      obtain ⟨i, x⟩ := p
      simp only [hp x (Array.mem_map.2 ⟨(i, x), by simpa using hm, rfl⟩)]
  cases op <;> simp only [Op.operands] at h <;> simp only [ev]
  case build t ps => rw [pairs ps fun x hx => h x (by simpa using hx)]
  case buildSlice t n ps => rw [pairs ps fun x hx => h x (by simpa using hx)]
  case makeFunc fn first captured =>
    rw [List.map_congr_left (l := first.toList) fun x hx => h x (by simp only [Array.mem_append]; exact .inl (by simpa using hx)), List.map_congr_left (l := captured.toList) fun x hx => h x (by simp only [Array.mem_append]; exact .inr (by simpa using hx))]
  case call c =>
    have hargs : c.args.toList.map (arg g') = c.args.toList.map (arg g) := List.map_congr_left fun x hx => h x (by simp only [Call.operands, Array.mem_append]; exact .inr (by simpa using hx))
    unfold evCall
    simp only [hargs]
    cases hc : c.callee with
    | value f => have hf : arg g' f = arg g f := h f (by simp [Call.operands, hc]); simp only [hf]
    | invoke r m => rfl
    | builtin b => cases b <;> rfl
  case slice t x lo hi mx => cases lo <;> cases hi <;> cases mx <;> simp_all
  all_goals (first | rfl | (simp_all; done))

theorem tmpsOf_get {g : Nat → SV} : ∀ {l : List Operand} {t : Nat}, Operand.tmp t ∈ l → getT (tmpsOf g l) t = g t
  | x :: l, t, h => by
    by_cases e : x = .tmp t
    · subst e
      simp [tmpsOf, getT_cons]
    · have h2 := tmpsOf_get (g := g) ((List.mem_cons.1 h).resolve_left fun h => e h.symm)
      cases x with
      | tmp t' =>
        simp only [tmpsOf, getT_cons]
        split
        · rename_i h; rw [h]
        · exact h2
      | _ => exact h2
theorem tmpsOf_arg {g : Nat → SV} {l : List Operand} {x : Operand} (h : x ∈ l) : arg (getT (tmpsOf g l)) x = arg g x := by
  cases x with
  | tmp t => exact tmpsOf_get h
  | _ => rfl
theorem blksOf_look {H : VH} : ∀ (l : List Nat), lookH (blksOf H l) = hidden l H
  | [] => by funext b; rfl
  | a :: l => by
    funext b
    have ih := congrFun (blksOf_look (H := H) l) b
    simp only [blksOf, lookH, lkN, hidden, memN] at ih ⊢
    rw [beqN, beqN]
    by_cases e : a = b
    · subst e; simp
    · have e' : ¬ b = a := fun h => e h.symm
      simp only [e, e', decide_false, cond_false]
      exact ih

theorem exec1_ok {T : TT} {Γ : List (Nat × GC)} {o : Oper} {key : Nat} {S : St} {K : List Nat → List Nat → St → Prop} (h : exec1 T Γ o key S K) (hk : KnOK S) :
    ∃ s u ids S', Acts1 T Γ o key S.get S.look s u ids ∧ K ids (u.map (·.1)) S' ∧ S'.get = setG S.get o.dst s ∧ S'.look = upd u S.look ∧ S'.next = S.next ∧ S'.hp = u ++ S.hp ∧ KnOK S' := by
  unfold exec1 at h
  split at h
  · rename_i c a b ho
    obtain ⟨t, S1, h1, h2, h3, h4, h5, h6, h7⟩ := part_ok h hk
    obtain ⟨S2, h8, h9, h10, h11, h12, h13⟩ := goOn_ok h2 h7
    rw [h3] at h9
    rw [h4] at h10
    exact ⟨_, [], [], S2, .pick c a b t ho h1, h8, h9, h10, h11.trans h5, by rw [h12, h6], h13⟩
  · rw [fT_eq, fNs_eq, fReach_eq, fNs_eq, fU_eq] at h
    have hargs : ∀ x ∈ o.op.operands, arg (getT (tmpsOf S.get o.op.operands.toList)) x = arg S.get x := fun x hx => tmpsOf_arg (by simpa using hx)
    have hmap : o.op.operands.toList.map (arg (getT (tmpsOf S.get o.op.operands.toList))) = o.op.operands.toList.map (arg S.get) := List.map_congr_left fun x hx => hargs x (by simpa using hx)
    rw [hmap, ev_congr o hargs, List.append_nil, blksOf_look] at h
    obtain ⟨s, u, h1, h2⟩ := fin_ok h
    unfold finOk at h2
    rw [fS_eq, fU_eq, List.append_nil] at h2
    change (bif tidy (reach S.get S.look o) key s u then _ else _) at h2
    change Holds (evS T Γ S.get S.look o key) s u at h1
    cases ht : tidy (reach S.get S.look o) key s u with
    | false => rw [ht] at h2; exact h2.elim
    | true =>
      rw [ht] at h2
      obtain ⟨S2, h8, h9, h10, h11, h12, h13⟩ := goOn_ok h2 hk
      exact ⟨s, u, _, S2, .ev s u h1 ht, h8, h9, h10, h11, h12, h13⟩

theorem step_ok {T : TT} {Γ : List (Nat × GC)} {ops : List Oper} {o : Oper} {key : Nat} {S : St} {K : List Nat → List Nat → St → Prop} (h : step T Γ ops o key S K) (hk : KnOK S) :
    ∃ s u ids S', Acts T Γ ops o key S.get S.look s u ids ∧ K ids (u.map (·.1)) S' ∧ S'.get = setG S.get o.dst s ∧ S'.look = upd u S.look ∧ S'.next = S.next ∧ S'.hp = u ++ S.hp ∧ KnOK S' := by
  unfold step at h
  split at h
  · rename_i hg
    obtain ⟨s, u, ids, S', h1, h2⟩ := exec1_ok h hk
    exact ⟨s, u, ids, S', .plain s u ids hg h1, h2⟩
  · rename_i j want hg
    split at h
    · rename_i d hd
      split at h
      · rename_i a ha
        obtain ⟨S2, h8, h9, h10, h11, h12, h13⟩ := goOn_ok h hk
        exact ⟨_, [], [], S2, .off j d want a hg hd ha, h8, h9, h10, h11, h12, h13⟩
      obtain ⟨t, S1, h1, h2, h3, h4, h5, h6, h7⟩ := part_ok h hk
      have h1 : S.get d = .val (.bool t) := h1
      cases e : (t == want) with
      | true =>
        rw [e] at h2
        obtain ⟨s, u, ids, S', h8, h9, h10, h11, h12, h13, h14⟩ := exec1_ok h2 h7
        rw [h3, h4] at h8
        rw [h3] at h10
        rw [h4] at h11
        refine ⟨s, u, ids, S', .yes s u ids j d want hg hd ?_ h8, h9, h10, h11, h12.trans h5, by rw [h13, h6], h14⟩
        rw [h1, eq_of_beq e]
      | false =>
        rw [e] at h2
        obtain ⟨S2, h8, h9, h10, h11, h12, h13⟩ := goOn_ok h2 h7
        rw [h3] at h9
        rw [h4] at h10
        exact ⟨_, [], [], S2, .no j d want t hg hd h1 (by simpa using e), h8, h9, h10, h11.trans h5, by rw [h12, h6], h13⟩
    · exact h.elim

structure Rec where
  s : SV
  u : List (Nat × Option VB)
  ids : List Nat
/-- The operations in the text's order. -/
inductive Tr (T : TT) (Γ : List (Nat × GC)) (ops : List Oper) : List Oper → Nat → (Nat → SV) → VH → List Rec → (Nat → SV) → VH → Prop
  | nil (key : Nat) (g : Nat → SV) (H : VH) : Tr T Γ ops [] key g H [] g H
  | cons (o : Oper) (l : List Oper) (key : Nat) (g : Nat → SV) (H : VH) (r : Rec) (rs : List Rec) (g' : Nat → SV) (H' : VH) (h : Acts T Γ ops o key g H r.s r.u r.ids)
      (h' : Tr T Γ ops l (key + stride) (setG g o.dst r.s) (upd r.u H) rs g' H') : Tr T Γ ops (o :: l) key g H (r :: rs) g' H'

def Rec.seen (r : Rec) : List Nat × List Nat := (r.ids, r.u.map (·.1))
def usOf : List Rec → List (Nat × Option VB)
  | [] => []
  | r :: rs => usOf rs ++ r.u

theorem runOps_ok {T : TT} {Γ : List (Nat × GC)} {ops : List Oper} {K : Seen → St → Prop} : ∀ (l : List Oper) (key : Nat) (S : St) (acc : Seen), runOps T Γ true ops l key S acc K → KnOK S →
    ∃ rs S', Tr T Γ ops l key S.get S.look rs S'.get S'.look ∧ rs.length = l.length ∧ K ((rs.map Rec.seen).reverse ++ acc) S' ∧ S'.next = key + l.length * stride ∧ S'.hp = usOf rs ++ S.hp ∧ KnOK S'
  | [], key, S, acc, h, hk => by
    obtain ⟨tp, hp, n, kn⟩ := S
    refine ⟨[], ⟨tp, hp, key, kn⟩, .nil _ _ _, rfl, ?_, by simp, rfl, hk⟩
    simpa [runOps_nil, runNil] using h
  | o :: l, key, S, acc, h, hk => by
    rw [runOps_cons] at h
    unfold stepB at h
    obtain ⟨s, u, ids, S1, h1, h2, h3, h4, h5, h6, h7⟩ := step_ok h hk
    have hn : ∃ n, key + stride = n + 1 := ⟨key + 63, rfl⟩
    obtain ⟨n, hn⟩ := hn
    rw [hn] at h2
    dsimp only at h2
    rw [← hn] at h2
    have h2 : runOps T Γ true ops l (key + stride) S1 ((ids, u.map (·.1)) :: acc) K := by simpa [fNs_eq] using h2
    obtain ⟨rs, S', h8, h9, h10, h11, h12, h13⟩ := runOps_ok l (key + stride) S1 _ h2 h7
    refine ⟨⟨s, u, ids⟩ :: rs, S', .cons o l key _ _ ⟨s, u, ids⟩ rs _ _ h1 (by rw [← h3, ← h4]; exact h8), by simp [h9], ?_, by rw [h11]; simp [Nat.add_mul]; omega, by rw [h12, h6]; simp [usOf], h13⟩
    simpa [Rec.seen] using h10
end Go.Proofs.Ytncdakkigkmfjaa.Sx
