import Derived.Test.YtncdakkigkmfjaaSxL
/-! What the evaluator says of code, it does. -/
namespace Go.Proofs.Ytncdakkigkmfjaa.Sx
open Go
set_option linter.unusedVariables false
set_option linter.unusedSimpArgs false

variable {P : Program} {T : TT} {Γ : List (Nat × GC)} {A : Anns} {E : Env}

theorem rdRow_any {S : St} {c : Nat} {own : Bool} {k : RK} {K : List (El k) → Prop} (h : rdRow S c own k K) : ∃ xs, K xs := by
  obtain ⟨xs, h1, _⟩ := rdRow_ok h; exact ⟨xs, h1⟩
theorem plainCells_any : ∀ {n : Nat} {l : List SV} {K : List CS → List SV → Prop}, plainCells n l K → ∃ a r, K a r
  | 0, l, K, h => ⟨_, _, h⟩
  | n + 1, [], K, h => h.elim
  | n + 1, x :: l, K, h => by
    cases x with
    | val v => obtain ⟨a, r, h⟩ := plainCells_any (n := n) (l := l) h; exact ⟨_, _, h⟩
    | _ => exact h.elim
theorem rdSh1_any {S : St} {n : Nat} {sh : Sh} {cs : List SV} {K : Dsh sh → Ren → List SV → Prop} (h : rdSh1 S n sh cs K) : ∃ x t r, K x t r := by
  unfold rdSh1 at h
  split at h
  · split at h
    · exact ⟨_, _, _, h⟩
    · exact h.elim
  · exact ⟨_, _, _, h⟩
  · exact ⟨_, _, _, h⟩
  · obtain ⟨xs, h1⟩ := rdRow_any h; exact ⟨_, _, _, h1⟩
  · rename_i k K
    cases e : flatK k with
    | false => rw [e] at h; exact h.elim
    | true =>
      rw [e] at h
      obtain ⟨a, r, h⟩ := plainCells_any h
      split at h
      · exact ⟨_, _, _, h⟩
      · exact h.elim
  · exact ⟨_, _, _, h.2⟩
  · exact h.elim
theorem rdSh_any {S : St} : ∀ {l : List Sh} {n : Nat} {cs : List SV} {K : Dshs l → Ren → Prop}, rdSh S l n cs K → ∃ x t, K x t
  | [], n, cs, K, h => by
    have h : rdNil cs K := h
    unfold rdNil at h
    split at h
    · exact ⟨_, _, h⟩
    · exact h.elim
  | sh :: l, n, cs, K, h => by
    have h : rdCons (rdSh1 S n sh) (rdSh S l (n + 1)) cs K := h
    unfold rdCons at h
    obtain ⟨x, t, r, h⟩ := rdSh1_any h
    obtain ⟨y, t', h⟩ := rdSh_any h
    exact ⟨_, _, h⟩
theorem rdCar_any {S : St} {n : Nat} {c : Car} {K : D c → Ren → Prop} (h : rdCar S n c K) : ∃ x t, K x t := by
  unfold rdCar at h
  split at h
  · obtain ⟨x, t, _, h⟩ := rdSh1_any h; exact ⟨_, _, h⟩
  · obtain ⟨x, t, _, h⟩ := rdSh1_any h; exact ⟨_, _, h⟩
  · obtain ⟨x, t, _, h⟩ := rdSh1_any h; exact ⟨_, _, h⟩
  · obtain ⟨x, t, _, h⟩ := rdSh1_any h; exact ⟨_, _, h⟩
  · split at h
    · split at h
      · obtain ⟨x, t, h⟩ := rdSh_any h; exact ⟨_, _, h⟩
      · exact h.elim
    · exact h.elim
  · split at h
    · obtain ⟨x, h⟩ := rdRow_any h; exact ⟨_, _, h⟩
    · exact h.elim
  · split at h
    · exact rdSh_any h
    · exact h.elim
  · obtain ⟨x, h⟩ := rdRow_any h; exact ⟨_, _, h⟩
  · exact ⟨_, _, h.2⟩
theorem rdCars_any {S : St} : ∀ {l : List Car} {n : Nat} {K : Ds l → Ren → Prop}, rdCars S l n K → ∃ x t, K x t
  | [], n, K, h => ⟨_, _, h⟩
  | c :: l, n, K, h => by
    have h : rdCar S n c fun x t => rdCars S l (n + 32) fun y t' => K (x, y) (t ++ t') := h
    obtain ⟨x, t, h⟩ := rdCar_any h
    obtain ⟨y, t', h⟩ := rdCars_any h
    exact ⟨_, _, h⟩
theorem carT_slots {n : Nat} {c : Car} {x : D c} {d : Nat} {sv : SV} (h : (d, sv) ∈ carT n c x) : d ∈ carSlot c := by
  cases c <;> simp only [carT, List.mem_singleton, Prod.mk.injEq, List.not_mem_nil] at h <;> simp [carSlot, h.1]
theorem cars_slots {cs : List Car} {ds : List Nat} {base : Nat} (hcs : okCars cs ds base = true) {n : Nat} {x : Ds cs} : ∀ d sv, (d, sv) ∈ carsT cs n x → d ∈ ds := by
  unfold okCars at hcs
  simp only [Bool.and_eq_true] at hcs
  have hs := subN_ok hcs.2.2.2.1
  intro d sv h
  refine hs d ?_
  clear hs hcs
  induction cs generalizing n with
  | nil => simp [carsT] at h
  | cons c l ih =>
    obtain ⟨x, y⟩ := x
    simp only [carsT, List.mem_append] at h
    simp only [List.flatMap_cons, List.mem_append]
    rcases h with h | h
    · exact .inl (carT_slots h)
    · exact .inr (ih h)
theorem shB_keys : ∀ {l : List Sh} {n : Nat} {x : Dshs l}, ∀ p ∈ shB l n x, n ≤ p.1
  | [], n, x, p, h => by simp [shB] at h
  | sh :: l, n, (x, y), p, h => by
    simp only [shB, List.mem_append] at h
    rcases h with h | h
    · cases sh <;> simp only [shB1, List.mem_singleton, List.not_mem_nil] at h
      rw [h]; exact Nat.le_refl _
    · have := shB_keys p h; omega
theorem carB_keys {c : Car} {n : Nat} {x : D c} : ∀ p ∈ carB n c x, n ≤ p.1 ∨ p.1 ∈ carOld c := by
  intro p h
  cases c with
  | r d o k => simp only [carB, List.mem_singleton] at h; rw [h]; exact .inl (Nat.le_refl _)
  | p d sh =>
    rcases List.mem_cons.1 h with rfl | h
    · exact .inl (Nat.le_refl _)
    · have := shB_keys p h; exact .inl (by omega)
  | pr d k => simp only [carB, List.mem_singleton] at h; rw [h]; exact .inl (Nat.le_refl _)
  | blk b sh =>
    rcases List.mem_cons.1 h with rfl | h
    · exact .inr (by simp [carOld])
    · have := shB_keys p h; exact .inl (by omega)
  | row b o k => simp only [carB, List.mem_singleton] at h; rw [h]; exact .inr (by simp [carOld])
  | _ => simp [carB] at h
theorem cars_blocks {cs : List Car} {ds : List Nat} {base b : Nat} (_ : okCars cs ds base = true) (hb : b < base) (hn : b ∉ cs.flatMap carOld) {x : Ds cs} : lkN (carsB cs base x) b = none := by
  have : ∀ (l : List Car) (n : Nat) (x : Ds l), base ≤ n → b ∉ l.flatMap carOld → lkN (carsB l n x) b = none := by
    intro l
    induction l with
    | nil => intro n x _ _; rfl
    | cons c l ih =>
      rintro n ⟨x, y⟩ hle hnot
      simp only [List.flatMap_cons, List.mem_append, not_or] at hnot
      simp only [carsB]
      rw [lkN_append]
      have : lkN (carB n c x) b = none := lkN_none.2 fun p hp e => by
        rcases carB_keys p hp with h | h
        · omega
        · exact hnot.1 (e ▸ h)
      rw [this]
      exact ih (n + 32) y (by omega) hnot.2
  exact this cs base x (Nat.le_refl _) hn

theorem allSh_ok : ∀ {l : List Sh} {K : Dshs l → Prop}, allSh l K → ∀ x, K x
  | [], K, h, () => h
  | sh :: l, K, h, (a, y) => by
    have h : allSh1 sh fun a => allSh l fun y => K (a, y) := h
    refine allSh_ok (l := l) (K := fun y => K (a, y)) ?_ y
    cases sh with
    | fix v => exact h
    | r own k => exact allL_iff.1 h a
    | st k => exact allE_iff.1 h a
    | _ => exact h a
theorem allDs_ok : ∀ {l : List Car} {K : Ds l → Prop}, allDs l K → ∀ x, K x
  | [], K, h, () => h
  | c :: l, K, h, (a, y) => by
    have h : allCar c fun a => allDs l fun y => K (a, y) := h
    refine allDs_ok (l := l) (K := fun y => K (a, y)) ?_ y
    cases c with
    | p d sh => exact allSh_ok h a
    | blk b sh => exact allSh_ok h a
    | fx d v => exact h
    | r d own k => exact allL_iff.1 h a
    | pr d k => exact allL_iff.1 h a
    | row b own k => exact allL_iff.1 h a
    | _ => exact h a
theorem rdCars_ok0 {S S0 : St} {cs : List Car} {K : Ds cs → Ren → Prop} (h : rdCars S cs S0.next K) : ∃ x t, K x t ∧ ∀ {ds : List Nat}, okCars cs ds S0.next = true → Tell S S0.next S0.next (S0.next + cs.length * 32) (carsT cs S0.next x) (carsB cs S0.next x) (cs.flatMap carOld) t ∧ True := by
  by_cases hok : ∃ ds, okCars cs ds S0.next = true
  · obtain ⟨ds, hok⟩ := hok
    unfold okCars at hok
    simp only [Bool.and_eq_true] at hok
    obtain ⟨_, _, hs3, _, hs5, _⟩ := hok
    obtain ⟨x, t, h1, h2⟩ := rdCars_ok (n0 := S0.next) (Nat.le_refl _) (fun c hc => by have := (List.all_eq_true.1 hs5) c hc; rwa [Nat.blt_eq] at this) (fun b hb => by have := (List.all_eq_true.1 hs3) b hb; rwa [Nat.blt_eq] at this) h
    exact ⟨x, t, h1, fun _ => ⟨h2, trivial⟩⟩
  · obtain ⟨x, t, h1⟩ := rdCars_any h
    exact ⟨x, t, h1, fun {ds} hds => absurd ⟨ds, hds⟩ hok⟩
theorem least (p : Nat → Prop) (h : ∃ n, p n) : ∃ n, p n ∧ ∀ k, p k → n ≤ k := by
  obtain ⟨n, hn⟩ := h
  induction n using Nat.strongRecOn with
  | ind n ih =>
    by_cases e : ∃ k, p k ∧ k < n
    · obtain ⟨k, hk, hlt⟩ := e
      exact ih k hlt hk
    · refine ⟨n, hn, fun k hk => ?_⟩
      rcases Nat.lt_or_ge k n with h | h
      · exact absurd ⟨k, hk, h⟩ e
      · exact h
open Classical in
theorem wp_loop_by {X : Type} {c : Code} {Q : Exit → Act → World → Prop} (I : X → Act → World → Prop) (mu : X → Nat) (round : ∀ x a w, I x a w → c.wp P (Exit.then (fun a' w' => ∃ y, I y a' w' ∧ mu y < mu x) Q) a w) {x : X} {a : Act} {w : World} (h : I x a w) :
    (Code.loop c).wp P Q a w := by
  let μ : Act → World → Nat := fun a w => if h : ∃ n, ∃ x, I x a w ∧ mu x = n then (least _ h).choose else 0
  have spec : ∀ a w, (∃ x, I x a w) → (∃ x, I x a w ∧ mu x = μ a w) ∧ ∀ x, I x a w → μ a w ≤ mu x := by
    rintro a w ⟨x, hx⟩
    have h : ∃ n, ∃ x, I x a w ∧ mu x = n := ⟨_, x, hx, rfl⟩
    have e : μ a w = (least _ h).choose := by simp only [μ]; rw [dif_pos h]
    rw [e]
    have := (least _ h).choose_spec
    exact ⟨this.1, fun x hx => this.2 _ ⟨x, hx, rfl⟩⟩
  refine wp_loop (fun a w => ∃ x, I x a w) μ ⟨x, h⟩ ?_
  intro a w hx
  obtain ⟨⟨x, hx, e⟩, _⟩ := spec a w hx
  refine wp_mono (round x a w hx) ?_
  intro ex a' w' hq
  cases ex with
  | normal =>
    obtain ⟨y, hy, hlt⟩ := hq
    exact ⟨⟨y, hy⟩, Nat.lt_of_le_of_lt ((spec a' w' ⟨y, hy⟩).2 y hy) (by rw [← e]; exact hlt)⟩
  | _ => exact hq

/-- What became of a state. -/
structure After (S : St) (ds : List Nat) (S' : St) : Prop where
  hp : ∃ u, S'.hp = u ++ S.hp
  next : S.next ≤ S'.next
  get : ∀ d, d ∉ ds → S'.get d = S.get d
theorem After.refl (S : St) (ds : List Nat) : After S ds S := ⟨⟨[], rfl⟩, Nat.le_refl _, fun _ _ => rfl⟩
theorem After.trans {S S1 S2 : St} {ds ds1 ds2 : List Nat} (h : After S ds1 S1) (k : After S1 ds2 S2) (h1 : ∀ d ∈ ds1, d ∈ ds) (h2 : ∀ d ∈ ds2, d ∈ ds) : After S ds S2 := by
  obtain ⟨u, hu⟩ := h.hp
  obtain ⟨v, hv⟩ := k.hp
  exact ⟨⟨v ++ u, by rw [hv, hu, List.append_assoc]⟩, Nat.le_trans h.next k.next, fun d hd => (k.get d fun h => hd (h2 d h)).trans (h.get d fun h => hd (h1 d h))⟩
theorem After.mono {S S1 : St} {ds ds1 : List Nat} (h : After S ds1 S1) (h1 : ∀ d ∈ ds1, d ∈ ds) : After S ds S1 := ⟨h.hp, h.next, fun d hd => h.get d fun h => hd (h1 d h)⟩

def Post (E : Env) (S : St) (ds : List Nat) (K : Exit → St → Prop) (e : Exit) (a : Act) (w : World) : Prop := ∃ S' m Imm, K e S' ∧ Inv E S' m Imm a w ∧ After S ds S'

theorem run_sound (hT : TOk P T) (hΓ : GOks P Γ) (hm : P.follows .mixedOrders = true) : ∀ (c : Code) (S : St) (K : Exit → St → Prop) (a : Act) (w : World) (m : Nat → Place) (Imm : Nat → Prop), run T Γ A c S K → (∀ d ∈ dsts c, d < E.wide) → Inv E S m Imm a w →
    c.wp P (Post E S (dsts c) K) a w
  | .skip, S, K, a, w, m, Imm, h, _, hI => wp_skip ⟨S, m, Imm, h, hI, .refl _ _⟩
  | .label _, S, K, a, w, m, Imm, h, _, hI => wp_label ⟨S, m, Imm, h, hI, .refl _ _⟩
  | .ret, S, K, a, w, m, Imm, h, _, hI => wp_ret ⟨S, m, Imm, h, hI, .refl _ _⟩
  | .exit _, S, K, a, w, m, Imm, h, _, hI => wp_exit ⟨S, m, Imm, h, hI, .refl _ _⟩
  | .region id ops dr, S, K, a, w, m, Imm, h, hd, hI => by
    have h : atRegion T Γ ops dr S K := h
    unfold atRegion at h
    rw [fN_eq] at h
    refine region_wp (E := E) hT hΓ hm (K := K .normal) (fun o ho d e => hd d ?_) h hI ?_
    · exact List.mem_filterMap.2 ⟨o, by simpa using ho, e⟩
    · intro a' w' m' Imm' S' hK hI' hp hn hg
      refine ⟨S', m', Imm', hK, hI', hp, hn, fun d hd' => hg d fun o ho e => hd' ?_⟩
      exact List.mem_filterMap.2 ⟨o, by simpa using ho, e⟩
  | .seq x y, S, K, a, w, m, Imm, h, hd, hI => by
    have h : run T Γ A x S (afterSeq (run T Γ A y) K) := h
    refine wp_seq (wp_mono (run_sound hT hΓ hm x S _ a w m Imm h (fun d h => hd d (by simp [dsts, h])) hI) ?_)
    rintro e a' w' ⟨S', m', Imm', hK, hI', hA⟩
    cases e with
    | normal =>
      refine wp_mono (run_sound hT hΓ hm y S' K a' w' m' Imm' hK (fun d h => hd d (by simp [dsts, h])) hI') ?_
      rintro e a'' w'' ⟨S2, m2, Imm2, hK2, hI2, hA2⟩
      exact ⟨S2, m2, Imm2, hK2, hI2, hA.trans hA2 (fun d h => by simp [dsts, h]) (fun d h => by simp [dsts, h])⟩
    | _ => exact ⟨S', m', Imm', hK, hI', hA.mono fun d h => by simp [dsts, h]⟩
  | .cond c x y, S, K, a, w, m, Imm, h, hd, hI => by
    have h : part S c fun t S => bif t then run T Γ A x S K else run T Γ A y S K := h
    obtain ⟨b, S1, h1, h2, h3, h4, h5, h6, h7⟩ := part_ok h hI.kn
    have hc : a.eval c = .bool b := bool_slot (arg_V hI.live.slots c) h1
    have hI1 : Inv E S1 m Imm a w := ⟨by rw [h3, h4]; exact hI.live, by rw [h3, h4, h5]; exact hI.low, by rw [h5]; exact hI.low0, h7⟩
    have hA : After S (dsts (.cond c x y)) S1 := ⟨⟨[], by rw [h6]; rfl⟩, by rw [h5]; exact Nat.le_refl _, fun d _ => by rw [h3]⟩
    refine wp_cond hc ?_
    cases b with
    | true =>
      refine wp_mono (run_sound hT hΓ hm x S1 K a w m Imm h2 (fun d h => hd d (by simp [dsts, h])) hI1) ?_
      rintro e a'' w'' ⟨S2, m2, Imm2, hK2, hI2, hA2⟩
      exact ⟨S2, m2, Imm2, hK2, hI2, hA.trans hA2 (fun d h => h) (fun d h => by simp [dsts, h])⟩
    | false =>
      refine wp_mono (run_sound hT hΓ hm y S1 K a w m Imm h2 (fun d h => hd d (by simp [dsts, h])) hI1) ?_
      rintro e a'' w'' ⟨S2, m2, Imm2, hK2, hI2, hA2⟩
      exact ⟨S2, m2, Imm2, hK2, hI2, hA.trans hA2 (fun d h => h) (fun d h => by simp [dsts, h])⟩
  | .block id c, S, K, a, w, m, Imm, h, hd, hI => by
    have h : run T Γ A c S (afterBlock id K) := h
    refine wp_block (wp_mono (run_sound hT hΓ hm c S _ a w m Imm h hd hI) ?_)
    rintro e a' w' ⟨S', m', Imm', hK, hI', hA⟩
    cases e with
    | exit i =>
      simp only [Exit.inBlock]
      simp only [afterBlock] at hK
      rw [beqN] at hK
      by_cases e : i = id
      · rw [if_pos e]; rw [decide_eq_true e] at hK; exact ⟨S', m', Imm', hK, hI', hA⟩
      · rw [if_neg e]; rw [decide_eq_false e] at hK; exact ⟨S', m', Imm', hK, hI', hA⟩
    | _ => exact ⟨S', m', Imm', hK, hI', hA⟩
  | .loop c, S, K, a, w, m, Imm, h, hd, hI => by
    have h : atLoop A c (run T Γ A c) S K := h
    unfold atLoop at h
    split at h
    · exact h.elim
    · split at h
      · exact h.elim
      · rename_i L0 _
        split at h
        · rename_i ids vs L1 _
          rw [fNs_eq, fL_eq, fNs_eq] at h
          generalize L1 ids vs = L at h
          unfold round at h
          rw [fN_eq, fN_eq] at h
          obtain ⟨x0, t0, hx0, hT0⟩ := rdCars_ok0 h
          obtain ⟨hc0, ⟨h4⟩, hround⟩ := hx0
          rw [Bool.and_eq_true] at hc0
          obtain ⟨hcs, ht0⟩ := hc0
          obtain ⟨hT0, _⟩ := hT0 hcs
          obtain ⟨m', hI'⟩ := rehead hI.low hI.low0 hI hcs ht0 hT0 (fun _ _ => rfl) (fun _ _ _ _ => rfl)
          refine wp_loop_by (fun (x : Ds L.cars) a w => L.inv x ∧ ∃ m Imm, Inv E (Sx.head L.cars S (dsts c) (t0.map (·.2)) x) m Imm a w) L.mu ?_ (x := x0) ⟨h4, m', Imm, hI'⟩
          rintro x a w ⟨hx, m, Imm, hIx⟩
          have hb := allDs_ok hround x hx
          rw [fSt_eq] at hb
          have hds : ∀ d sv, (d, sv) ∈ carsT L.cars S.next x → d ∈ dsts c := cars_slots hcs
          have getH : ∀ d, d ∉ dsts c → (Sx.head L.cars S (dsts c) (t0.map (·.2)) x).get d = S.get d := by
            intro d hd'
            have hg : (Sx.head L.cars S (dsts c) (t0.map (·.2)) x).get d = match lkN (carsT L.cars S.next x ++ (undefs (dsts c) ++ S.tp)) d with | some v => v | none => .undef := rfl
            rw [lkN_append, lkN_append] at hg
            have q1 : lkN (carsT L.cars S.next x) d = none := lkN_none.2 fun p hp e => hd' (e ▸ hds p.1 p.2 hp)
            rw [q1] at hg
            rcases undefs_lk (l := dsts c) (d := d) with ⟨q2, _⟩ | ⟨_, q2⟩
            · exact absurd q2 hd'
            · rw [q2] at hg; exact hg
          refine wp_mono (run_sound hT hΓ hm c _ _ a w m Imm hb hd hIx) ?_
          rintro e a' w' ⟨S', m1, Imm1, hK, hI1, hA⟩
          have hA' : After S (dsts (.loop c)) S' := by
            obtain ⟨u, hu⟩ := hA.hp
            refine ⟨⟨u ++ (carsB L.cars S.next x ++ nones (t0.map (·.2))), ?_⟩, ?_, fun d hd' => (hA.get d hd').trans (getH d hd')⟩
            · rw [hu]; simp [Sx.headN]
            · have : S.next + 1024 ≤ S'.next := hA.next
              omega
          cases e with
          | normal =>
            obtain ⟨y, t, ⟨hok, hy, hlt⟩, hTy⟩ := rdCars_ok0 hK
            rw [Bool.and_eq_true] at hok
            obtain ⟨hok1, hok2⟩ := hok
            obtain ⟨hTy, _⟩ := hTy hcs
            obtain ⟨u, hu⟩ := hA.hp
            obtain ⟨m2, hI2⟩ := rehead (S := S) (S1 := S') hI.low hI.low0 hI1 hcs hok1 hTy (fun d hd' => (hA.get d hd').trans (getH d hd')) (by
              intro b hb h13 h14
              have hnew : ∀ p ∈ u, p.1 ≠ b := by
                intro p hp e
                unfold okHp at hok2
                rw [keysOf_eq, List.all_map] at hok2
                have htake : S'.hp.take (lenN S'.hp - lenN (Sx.headN L.cars S.next (S.next + 1024) S (dsts c) (t0.map (·.2)) x).hp) = u := by
                  rw [lenN_eq, lenN_eq, hu, List.length_append, Nat.add_sub_cancel]
                  exact List.take_left
                rw [htake] at hok2
                have := (List.all_eq_true.1 hok2) p hp
                simp only [Function.comp, Bool.or_eq_true, Nat.ble_eq, memN_iff] at this
                rcases this with h | h | h
                · omega
                · exact h13 (e ▸ h)
                · exact h14 (e ▸ h)
              have e1 : S'.look b = (Sx.head L.cars S (dsts c) (t0.map (·.2)) x).look b := by
                show lookH S'.hp b = _
                rw [hu, lookH_append]
                unfold upd
                rw [lkN_none.2 hnew]
                rfl
              rw [e1]
              have hg : (Sx.head L.cars S (dsts c) (t0.map (·.2)) x).look b = match lkN (carsB L.cars S.next x ++ (nones (t0.map (·.2)) ++ S.hp)) b with | some v => v | none => none := rfl
              rw [hg, lkN_append, lkN_append]
              have q1 : lkN (carsB L.cars S.next x) b = none := cars_blocks hcs hb h13
              have q3 : lkN (nones (t0.map (·.2))) b = none := by
                rcases nones_lk (l := t0.map (·.2)) (b := b) with ⟨q, _⟩ | ⟨_, q⟩
                · exact absurd q h14
                · exact q
              rw [q1, q3]
              rfl)
            exact ⟨y, ⟨hy, m2, Imm1, hI2⟩, hlt⟩
          | _ => exact ⟨S', m1, Imm1, hK, hI1, hA'⟩
        · rename_i n _
          refine wp_loop_rounds n ?_
          have : ∀ (n : Nat) (S1 : St) (a : Act) (w : World) (m : Nat → Place) (Imm : Nat → Prop), rounds n (run T Γ A c) K S1 → Inv E S1 m Imm a w → After S (dsts c) S1 → Code.rounds P c (Post E S (dsts c) K) n a w := by
            intro n
            induction n with
            | zero => intro S1 a w m Imm h; exact h.elim
            | succ n ih =>
              intro S1 a w m Imm h hI hA
              have h : run T Γ A c S1 fun e S' => match e with
                | .normal => rounds n (run T Γ A c) K S'
                | e => K e S' := h
              rw [rounds_succ]
              refine wp_mono (run_sound hT hΓ hm c S1 _ a w m Imm h hd hI) ?_
              rintro e a' w' ⟨S', m1, Imm1, hK, hI1, hA1⟩
              have hA2 := hA.trans hA1 (fun d h => h) (fun d h => h)
              cases e with
              | normal => exact ih S' a' w' m1 Imm1 hK hI1 hA2
              | _ => exact ⟨S', m1, Imm1, hK, hI1, hA2⟩
          exact this n S a w m Imm h hI (.refl _ _)
  | .scope _, S, K, a, w, m, Imm, h, hd, hI => h.elim
  | .goto _, S, K, a, w, m, Imm, h, hd, hI => h.elim
  | .refuse _, S, K, a, w, m, Imm, h, hd, hI => h.elim
  | .rangeFunc _ _ _ _, S, K, a, w, m, Imm, h, hd, hI => h.elim
end Go.Proofs.Ytncdakkigkmfjaa.Sx
