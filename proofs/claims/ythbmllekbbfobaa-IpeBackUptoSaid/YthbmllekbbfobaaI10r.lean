import Derived.Test.YthbmllekbbfobaaProg
import Derived.Test.YthbmllekbbfobaaSxU
import Derived.IntWalk
import Derived.Test.YthbmllekbbfobaaI9
/-! ipe, laws -/
namespace Go.Proofs.Ythbmllekbbfobaa.Sx
open Go
set_option linter.unusedVariables false
set_option linter.unusedSimpArgs false
set_option maxRecDepth 100000

def purseP : Product := ⟨1, 2, 9, 7, 1, 500, 0, 0, false, 0, 0, 0, 0, false⟩
structure DoS where
  p : Product
def lenD {α : Type} (l : List α) (m : Nat) (i : Int) : Nat := (min l.length m) - i.toNat
def IDs (dos : List Do10) (i : Int) (q : Product) : Prop := ∃ j : Nat, j ≤ dos.length ∧ j ≤ 300 ∧ i = j ∧ rightP q = true
def IVl (dos : List Do10) (i value : Int) (q : Product) : Prop := ∃ (j : Nat) (r : Product), j ≤ dos.length ∧ j ≤ 300 ∧ i = j ∧ rightP r = true ∧ value = r.value ∧ r = q
def ICn (dos : List Do10) (i : Int) (q : Product) : Prop := ∃ (j : Nat) (r : Product), j ≤ dos.length ∧ j ≤ 200 ∧ i = j ∧ rightP r = true ∧ True ∧ r = q
theorem rd_right {p : Product} {a : Int} (h : rightP p = true) (h0 : rdE p a = 0) : rightP (rdP p a) = true := by
  obtain ⟨⟨a1, a2⟩, ⟨b1, b2⟩, ⟨c1, c2⟩, ⟨d1, d2⟩, ⟨e1, e2⟩, ⟨f1, f2⟩, ⟨g1, g2⟩, ⟨h1, h2⟩, ⟨i1, i2⟩, ⟨j1, j2⟩, ⟨k1, k2⟩, ⟨l1, l2⟩⟩ := right_iff.1 h
  obtain ⟨m1, m2, m3, m4, m5⟩ := rdE_0 h0
  rw [right_iff, rdP, if_pos h0]
  refine ⟨⟨a1, a2⟩, ⟨b1, b2⟩, ⟨c1, c2⟩, ⟨d1, d2⟩, ⟨e1, e2⟩, ⟨f1, f2⟩, ⟨g1, g2⟩, ?_, ⟨i1, i2⟩, ⟨j1, j2⟩, ⟨by simp only []; omega, by simp only []; omega⟩, ⟨l1, l2⟩⟩
  simp only []
  by_cases hc : counted p
  · have := m3 hc; rw [if_pos hc]; omega
  · rw [if_neg hc]; exact ⟨h1, h2⟩
theorem jn_right {p : Product} {a b : Int} (h : rightP p = true) (h0 : jnE p a b = 0) : rightP (jnP p a b) = true := by
  obtain ⟨⟨a1, a2⟩, ⟨b1, b2⟩, ⟨c1, c2⟩, ⟨d1, d2⟩, ⟨e1, e2⟩, ⟨f1, f2⟩, ⟨g1, g2⟩, ⟨h1, h2⟩, ⟨i1, i2⟩, ⟨j1, j2⟩, ⟨k1, k2⟩, ⟨l1, l2⟩⟩ := right_iff.1 h
  obtain ⟨m1, m2, m3, m4, m5⟩ := jnE_0 h0
  rw [right_iff, jnP, if_pos h0]
  exact ⟨⟨a1, a2⟩, ⟨b1, b2⟩, ⟨c1, c2⟩, ⟨d1, d2⟩, ⟨e1, e2⟩, ⟨f1, f2⟩, ⟨g1, g2⟩, ⟨h1, h2⟩, m1, m2, ⟨by simp only []; omega, by simp only []; omega⟩, ⟨l1, l2⟩⟩
theorem jt_right {p : Product} {a : Int} (h : rightP p = true) (h0 : jtE p a = 0) : rightP (jtP p a) = true := by
  obtain ⟨⟨a1, a2⟩, ⟨b1, b2⟩, ⟨c1, c2⟩, ⟨d1, d2⟩, ⟨e1, e2⟩, ⟨f1, f2⟩, ⟨g1, g2⟩, ⟨h1, h2⟩, ⟨i1, i2⟩, ⟨j1, j2⟩, ⟨k1, k2⟩, ⟨l1, l2⟩⟩ := right_iff.1 h
  obtain ⟨m1, m2, m3, m4, m5, m6⟩ := jtE_0 h0
  rw [right_iff, jtP, if_pos h0]
  exact ⟨⟨a1, a2⟩, ⟨b1, b2⟩, ⟨c1, c2⟩, ⟨d1, d2⟩, ⟨e1, e2⟩, ⟨by simp only []; omega, by simp only []; omega⟩, ⟨g1, g2⟩, ⟨h1, h2⟩, ⟨by simp, by simp⟩, ⟨by simp, by simp⟩, ⟨by simp only []; omega, by simp only []; omega⟩, ⟨l1, l2⟩⟩
theorem ad_right {p : Product} {a : Int} (h : rightP p = true) (h0 : adE p a = 0) : rightP (adP p a) = true := by
  obtain ⟨⟨a1, a2⟩, ⟨b1, b2⟩, ⟨c1, c2⟩, ⟨d1, d2⟩, ⟨e1, e2⟩, ⟨f1, f2⟩, ⟨g1, g2⟩, ⟨h1, h2⟩, ⟨i1, i2⟩, ⟨j1, j2⟩, ⟨k1, k2⟩, ⟨l1, l2⟩⟩ := right_iff.1 h
  obtain ⟨m1, m2, m3, m4, m5⟩ := adE_0 h0
  rw [right_iff, adP, if_pos h0]
  exact ⟨⟨a1, a2⟩, ⟨b1, b2⟩, ⟨c1, c2⟩, ⟨d1, d2⟩, ⟨e1, e2⟩, ⟨by simp only []; omega, by simp only []; omega⟩, ⟨g1, g2⟩, ⟨h1, h2⟩, ⟨i1, i2⟩, ⟨j1, j2⟩, ⟨by simp only []; omega, by simp only []; omega⟩, ⟨l1, l2⟩⟩
theorem bl_right {p : Product} (h : rightP p = true) (b : Bool) : rightP { p with blocked := b } = true := by
  have hR := right_iff.1 h
  rw [right_iff]
  exact ⟨hR.kind, hR.owner, hR.id, hR.card, hR.ver, hR.value, hR.last, hR.rides, hR.zone, hR.day, hR.txn, hR.act⟩
theorem entL_isB {i n : Int} (hi : 0 ≤ i) (hi' : i < 255) (hn : n < 256 ^ 7) : isB (entL i n) := by
  unfold entL
  split
  · exact isB_nil
  · have := numB_len hn
    intro x hx
    rcases List.mem_cons.1 hx with rfl | hx
    · omega
    · rcases List.mem_cons.1 hx with rfl | hx
      · omega
      · exact numB_isB n x hx
theorem innL_isB : ∀ (i : Int) (ns : List Int), 0 ≤ i → i + ns.length ≤ 127 → okL ns → isB (innL i ns)
  | i, [], _, _, _ => isB_nil
  | i, n :: ns, h, h', ho => by
    simp only [List.length_cons] at h'
    exact (entL_isB h (by omega) (ho n List.mem_cons_self).2).append (innL_isB (i + 1) ns (by omega) (by omega) (fun m hm => ho m (List.mem_cons_of_mem _ hm)))
theorem formB_isB {p : Product} (h : rightP p = true) : isB (formB p) := by
  have hl := inn_len h
  intro x hx
  rcases List.mem_cons.1 hx with rfl | hx
  · omega
  · rcases List.mem_cons.1 hx with rfl | hx
    · omega
    · exact innL_isB 0 (numsP p) (Int.le_refl _) (by simp [numsP]) (right_okL h) x hx
theorem formL_isB (p : Product) : isB (formL p) := by
  unfold formL
  cases hr : rightP p with
  | false => exact isB_nil
  | true => exact formB_isB hr
theorem do_at0 {p : Product} {k a b : Int} (h : k = 0) : doP p k a b = rdP p a ∧ doE p k a b = rdE p a := by subst h; exact ⟨rfl, rfl⟩
theorem do_at1 {p : Product} {k a b : Int} (h : k = 1) : doP p k a b = jnP p a b ∧ doE p k a b = jnE p a b := by subst h; exact ⟨rfl, rfl⟩
theorem do_at2 {p : Product} {k a b : Int} (h : k = 2) : doP p k a b = jtP p a ∧ doE p k a b = jtE p a := by subst h; exact ⟨rfl, rfl⟩
theorem do_at3 {p : Product} {k a b : Int} (h : k = 3) : doP p k a b = adP p a ∧ doE p k a b = adE p a := by subst h; exact ⟨rfl, rfl⟩
theorem all_one {p : Product} (h : rightP p = true) (h' : ([p].all rightP) = false) : False := by
  rw [List.all_cons, h] at h'; cases h'
theorem rd_val {p : Product} {a : Int} (h : rightP p = true) (h0 : rdE p a = 0) : (rdP p a).value = p.value ∧ 0 ≤ (rdP p a).rides ∧ (rdP p a).txn = p.txn + 1 ∧ (rdP p a).kind = p.kind ∧ (rdP p a).owner = p.owner ∧ (rdP p a).id = p.id ∧ (rdP p a).card = p.card ∧ (rdP p a).ver = p.ver ∧ (rdP p a).act = p.act ∧ (rdP p a).last = p.last ∧ (rdP p a).blocked = false := by
  have hr := (right_iff.1 h).rides
  have hz := rdE_0 h0
  have hb : p.blocked = false := by first | exact hz.2.2.2.1 | exact hz.2.2.2.2.1
  unfold rdP
  rw [if_pos h0]
  refine ⟨rfl, ?_, rfl, rfl, rfl, rfl, rfl, rfl, rfl, rfl, hb⟩
  first
    | rfl
    | (simp only []
       by_cases hc : counted p
       · have := hz.2.2.1 hc; rw [if_pos hc]; omega
       · rw [if_neg hc]; exact hr.1)
theorem jn_val {p : Product} {a b : Int} (h : rightP p = true) (h0 : jnE p a b = 0) : (jnP p a b).value = p.value ∧ (jnP p a b).rides = p.rides ∧ (jnP p a b).txn = p.txn + 1 ∧ (jnP p a b).kind = p.kind ∧ (jnP p a b).owner = p.owner ∧ (jnP p a b).id = p.id ∧ (jnP p a b).card = p.card ∧ (jnP p a b).ver = p.ver ∧ (jnP p a b).act = p.act ∧ (jnP p a b).last = p.last ∧ (jnP p a b).blocked = false := by
  have hr := (right_iff.1 h).rides
  have hz := jnE_0 h0
  have hb : p.blocked = false := by first | exact hz.2.2.2.1 | exact hz.2.2.2.2.1
  unfold jnP
  rw [if_pos h0]
  refine ⟨rfl, ?_, rfl, rfl, rfl, rfl, rfl, rfl, rfl, rfl, hb⟩
  first
    | rfl
    | (simp only []
       by_cases hc : counted p
       · have := hz.2.2.1 hc; rw [if_pos hc]; omega
       · rw [if_neg hc]; exact hr.1)
theorem jt_val {p : Product} {a : Int} (h : rightP p = true) (h0 : jtE p a = 0) : (jtP p a).value = p.value - a ∧ (jtP p a).rides = p.rides ∧ (jtP p a).txn = p.txn + 1 ∧ (jtP p a).kind = p.kind ∧ (jtP p a).owner = p.owner ∧ (jtP p a).id = p.id ∧ (jtP p a).card = p.card ∧ (jtP p a).ver = p.ver ∧ (jtP p a).act = p.act ∧ (jtP p a).last = p.last ∧ (jtP p a).blocked = false ∧ 0 ≤ a ∧ a ≤ p.value := by
  have hr := (right_iff.1 h).rides
  have hz := jtE_0 h0
  have hb : p.blocked = false := by first | exact hz.2.2.2.1 | exact hz.2.2.2.2.1
  unfold jtP
  rw [if_pos h0]
  refine ⟨rfl, ?_, rfl, rfl, rfl, rfl, rfl, rfl, rfl, rfl, hb, hz.1, hz.2.1⟩
  first
    | rfl
    | (simp only []
       by_cases hc : counted p
       · have := hz.2.2.1 hc; rw [if_pos hc]; omega
       · rw [if_neg hc]; exact hr.1)
theorem ad_val {p : Product} {a : Int} (h : rightP p = true) (h0 : adE p a = 0) : (adP p a).value = p.value + a ∧ (adP p a).rides = p.rides ∧ (adP p a).txn = p.txn + 1 ∧ (adP p a).kind = p.kind ∧ (adP p a).owner = p.owner ∧ (adP p a).id = p.id ∧ (adP p a).card = p.card ∧ (adP p a).ver = p.ver ∧ (adP p a).act = p.act ∧ (adP p a).last = p.last ∧ (adP p a).blocked = false ∧ 0 ≤ a ∧ a ≤ 2147483648 - p.value := by
  have hr := (right_iff.1 h).rides
  have hz := adE_0 h0
  have hb : p.blocked = false := by first | exact hz.2.2.2.1 | exact hz.2.2.2.2.1
  unfold adP
  rw [if_pos h0]
  refine ⟨rfl, ?_, rfl, rfl, rfl, rfl, rfl, rfl, rfl, rfl, hb, hz.1, hz.2.1⟩
  first
    | rfl
    | (simp only []
       by_cases hc : counted p
       · have := hz.2.2.1 hc; rw [if_pos hc]; omega
       · rw [if_neg hc]; exact hr.1)
theorem bytes_inj : ∀ {a b : List Int}, isB a → isB b → a.map (fun n => UInt8.ofNat n.toNat) = b.map (fun n => UInt8.ofNat n.toNat) → a = b
  | [], [], _, _, _ => rfl
  | x :: a, y :: b, ha, hb, h => by
    simp only [List.map_cons, List.cons.injEq] at h
    have h1 := ha x List.mem_cons_self
    have h2 := hb y List.mem_cons_self
    have e := congrArg UInt8.toNat h.1
    simp only [UInt8.toNat_ofNat'] at e
    rw [bytes_inj (fun z hz => ha z (List.mem_cons_of_mem _ hz)) (fun z hz => hb z (List.mem_cons_of_mem _ hz)) h.2, show x = y by omega]
  | [], _ :: _, _, _, h => by cases h
  | _ :: _, [], _, _, h => by cases h
theorem bytesStr_list (a : List Int) : (bytesStr a).toList = a.map (fun n => UInt8.ofNat n.toNat) := by
  rw [ByteArray.toList_eq]; rfl
theorem bytesStr_inj {a b : List Int} (ha : isB a) (hb : isB b) (h : (bytesStr a).toList = (bytesStr b).toList) : a = b := by
  rw [bytesStr_list, bytesStr_list] at h
  exact bytes_inj ha hb h
theorem form_inj {a b : Product} (ha : rightP a = true) (hb : rightP b = true) (h : formB a = formB b) : a = b := by
  have h1 := (par_form ha).2
  rw [h, (par_form hb).2] at h1
  exact h1.symm
/-- No form is the beginning of another. -/
theorem form_pre {a b : Product} (ha : rightP a = true) (hb : rightP b = true) (n : Nat) (hn : n = min (formB a).length (formB b).length) (h : (formB a).take n = (formB b).take n) : formB a = formB b := by
  have la := inn_len ha
  have lb := inn_len hb
  have h2 : 2 ≤ n := by subst hn; simp only [formB, List.length_cons]; omega
  have e : (formB a).getD 1 0 = (formB b).getD 1 0 := by
    have e1 : (formB a).getD 1 0 = ((formB a).take n).getD 1 0 := by rw [List.getD_eq_getElem?_getD, List.getD_eq_getElem?_getD, List.getElem?_take, if_pos (by omega)]
    have e2 : (formB b).getD 1 0 = ((formB b).take n).getD 1 0 := by rw [List.getD_eq_getElem?_getD, List.getD_eq_getElem?_getD, List.getElem?_take, if_pos (by omega)]
    rw [e1, e2, h]
  have e3 : ((innL 0 (numsP a)).length : Int) = (innL 0 (numsP b)).length := e
  have hl : (formB a).length = (formB b).length := by simp only [formB, List.length_cons]; omega
  rw [List.take_of_length_le (by omega), List.take_of_length_le (by omega)] at h
  exact h
theorem formL_right {p : Product} (h : rightP p = true) : formL p = formB p := by rw [formL, h]; rfl
theorem minI (A : Int) (x y : Nat) : (bif false then A else if (y : Int) < (x : Int) then (y : Int) else (x : Int)) = ((min x y : Nat) : Int) := by
  simp only [cond_false]
  split <;> omega
theorem form_dec {a b : Product} (ha : rightP a = true) (hb : rightP b = true) : ((bytesStr (formB a)).toList == (bytesStr (formB b)).toList) = decide (a = b) := by
  rw [Bool.eq_iff_iff, beq_iff_eq, decide_eq_true_eq]
  exact ⟨fun h => form_inj ha hb (bytesStr_inj (formB_isB ha) (formB_isB hb) h), fun h => by rw [h]⟩


end Go.Proofs.Ythbmllekbbfobaa.Sx
