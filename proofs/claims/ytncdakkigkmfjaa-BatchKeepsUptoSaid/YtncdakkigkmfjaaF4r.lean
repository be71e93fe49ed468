import Derived.Test.YtncdakkigkmfjaaProg
import Derived.Test.YtncdakkigkmfjaaSxU
import Derived.IntWalk
import Derived.Test.YtncdakkigkmfjaaF3
/-! fare, its laws -/
namespace Go.Proofs.Ytncdakkigkmfjaa.Sx
open Go
set_option linter.unusedVariables false
set_option linter.unusedSimpArgs false
set_option maxRecDepth 100000


structure Config where
  base : Int
  step : Int
  cap : Int
def rightC (c : Config) : Bool := inR 0 1000000 [c.base, c.step, c.cap]
def fareC (c : Config) (f t : Int) : Int := if rightC c = false ∨ inR 0 255 [f, t] = false then 0 else min c.cap (c.base + c.step * max (f - t) (t - f))
theorem rightC_iff (c : Config) : rightC c = true ↔ (0 ≤ c.base ∧ c.base ≤ 1000000) ∧ (0 ≤ c.step ∧ c.step ≤ 1000000) ∧ (0 ≤ c.cap ∧ c.cap ≤ 1000000) := by
  simp [rightC, inR_iff]
theorem in2_iff (f t : Int) : inR 0 255 [f, t] = true ↔ (0 ≤ f ∧ f ≤ 255) ∧ (0 ≤ t ∧ t ≤ 255) := by
  simp [inR_iff]
theorem fareC_ok {c : Config} {f t : Int} (h : rightC c = true) (k : inR 0 255 [f, t] = true) : fareC c f t = min c.cap (c.base + c.step * max (f - t) (t - f)) := by
  unfold fareC
  rw [if_neg (by simp [h, k])]
theorem fare_mul {a b : Int} (h : 0 ≤ a) (h' : a ≤ 1000000) (k : 0 ≤ b) (k' : b ≤ 255) : 0 ≤ a * b ∧ a * b ≤ 255000000 := by
  refine ⟨Int.mul_nonneg h k, ?_⟩
  have := Int.mul_le_mul h' k' k (by decide)
  omega



def rideJ : Journey := ⟨1, 1, 7, 2, 9, 1, 1, 4, 250, 3⟩
def rideB : Batch := ⟨1, 1, [rideJ]⟩
theorem ride3 : getB (putBB ⟨1, 1, [rideJ]⟩) = ⟨1, 1, [rideJ]⟩ := by kernel_rfl
theorem ride4 : (putBB ⟨1, 1, [rideJ]⟩).length = 25 := by kernel_rfl
theorem bytesF_isB (fs : List FieldT) : isB (bytesF fs) := by
  intro x hx
  obtain ⟨f, _, hx⟩ := List.mem_flatMap.1 hx
  exact be_isB _ _ x hx
theorem form_isB (js : List Journey) : isB (form js) := by
  intro x hx
  obtain ⟨f, _, hx⟩ := List.mem_flatMap.1 hx
  exact bytesF_isB _ x hx
theorem isB_nil : isB [] := fun x hx => by simp at hx
theorem putBB_isB (x : Batch) : isB (putBB x) := by
  unfold putBB
  split
  · exact (((be_isB _ _).append (be_isB _ _)).append (be_isB _ _)).append (form_isB _)
  · exact isB_nil
theorem putJ_isB (js : List Journey) : isB (putJ js) := by
  unfold putJ
  split
  · exact form_isB _
  · exact isB_nil



theorem good_append (a b : List Journey) : good (a ++ b) = (good a && good b) := by simp [good]
theorem form_append (a b : List Journey) : form (a ++ b) = form a ++ form b := by simp [form]
theorem bytesStr_append (a b : List Int) : bytesStr (a ++ b) = bytesStr a ++ bytesStr b := by
  unfold bytesStr
  apply ByteArray.ext
  simp
theorem sum_le {c : Int} : ∀ {l : List Int}, (∀ n ∈ l, 0 ≤ n ∧ n ≤ c) → 0 ≤ l.sum ∧ l.sum ≤ c * l.length
  | [], _ => by simp
  | x :: l, h => by
    have h1 := h x (by simp)
    have h2 := sum_le (l := l) fun n hn => h n (by simp [hn])
    simp only [List.sum_cons, List.length_cons]
    rw [Int.natCast_add, Int.mul_add]
    omega
theorem totV_le (js : List Journey) : 0 ≤ totV js ∧ totV js ≤ 2147483648 * js.length := by
  unfold totV
  split
  · rename_i h
    have := sum_le (fares_in h)
    rw [List.length_map] at this
    exact this
  · omega
theorem totV_append' (a b : List Journey) : totV (a ++ b) = if (good a && good b) = true then totV a + totV b else 0 := by
  unfold totV
  rw [good_append]
  cases good a <;> cases good b <;> simp
theorem totV_append {a b : List Journey} (ha : good a = true) (hb : good b = true) : totV (a ++ b) = totV a + totV b := by
  unfold totV
  rw [good_append, ha, hb]
  simp
theorem bytesStr_size (a : List Int) : (bytesStr a).size = a.length := by simp [bytesStr, ByteArray.size]



theorem num_be : ∀ (k : Nat) (n : Int), 0 ≤ n → n < 2 ^ (8 * k) → num (be k n) = n
  | 0, n, h, h' => by
    simp at h'
    have : n = 0 := by omega
    subst this; rfl
  | k + 1, n, h, h' => by
    have h2 : n / 256 < 2 ^ (8 * k) := by
      rw [pow_mul (show 8 * (k + 1) = 8 * k + 8 by omega)] at h'
      exact Int.ediv_lt_of_lt_mul (by decide) (by simpa using h')
    simp only [be, num_snoc]
    rw [num_be k _ (Int.ediv_nonneg h (by decide)) h2]
    omega
theorem be_num {l : List Int} (h : isB l) : be l.length (num l) = l := by
  have : ∀ (n : Nat) (l : List Int), l.length = n → isB l → be l.length (num l) = l := by
    intro n
    induction n with
    | zero => intro l hl _; rw [List.length_eq_zero_iff.1 hl]; rfl
    | succ n ih =>
      intro l hl hB
      have e : l = l.take n ++ [l.getD n 0] := by rw [← take_succ (by omega), List.take_of_length_le (by omega)]
      have hx := hB.getD n
      have hi := ih (l.take n) (by rw [List.length_take]; omega) (hB.take n)
      have e2 : num l = 256 * num (l.take n) + l.getD n 0 := by rw [← num_snoc, ← e]
      rw [hl, e2]
      simp only [be]
      rw [show (256 * num (l.take n) + l.getD n 0) / 256 = num (l.take n) by omega, show (256 * num (l.take n) + l.getD n 0) % 256 = l.getD n 0 by omega]
      rw [List.length_take, Nat.min_eq_left (by omega)] at hi
      rw [hi, ← e]
  exact this _ l rfl h
theorem rd_bytes : ∀ (fs : List FieldT) (rest : List Int), fs.all rightF = true → (∀ f ∈ fs, f.width % 8 = 0) → rd (bytesF fs ++ rest) (fs.map (·.width)) = fs.map (·.value)
  | [], _, _, _ => rfl
  | f :: fs, rest, h, h8 => by
    rw [List.all_cons, Bool.and_eq_true] at h
    have hr := rightF_w h.1
    have hw := h8 f (by simp)
    have hl := be_length (f.width.toNat / 8) f.value
    have e : bytesF (f :: fs) ++ rest = be (f.width.toNat / 8) f.value ++ (bytesF fs ++ rest) := by simp [bytesF]
    simp only [List.map_cons, rd]
    rw [e, List.take_append_of_le_length (by omega), List.take_of_length_le (by omega), List.drop_append_of_le_length (by omega), List.drop_of_length_le (by omega), List.nil_append, rd_bytes fs rest h.2 (fun x hx => h8 x (by simp [hx]))]
    rw [num_be _ _ hr.2.2.1 (by rw [show 8 * (f.width.toNat / 8) = f.width.toNat by omega]; exact hr.2.2.2)]
theorem bytes_rd : ∀ (ws : List Int) (b : List Int), isB b → sumB ws ≤ b.length → bytesF (List.zipWith FieldT.mk ws (rd b ws)) = b.take (sumB ws)
  | [], b, _, _ => rfl
  | w :: ws, b, hB, hl => by
    simp only [sumB] at hl
    simp only [rd, List.zipWith_cons_cons, sumB]
    have e : bytesF (⟨w, num (b.take (w.toNat / 8))⟩ :: List.zipWith FieldT.mk ws (rd (b.drop (w.toNat / 8)) ws)) = be (w.toNat / 8) (num (b.take (w.toNat / 8))) ++ bytesF (List.zipWith FieldT.mk ws (rd (b.drop (w.toNat / 8)) ws)) := by simp [bytesF]
    have h1 := be_num (hB.take (w.toNat / 8))
    rw [List.length_take, Nat.min_eq_left (by omega)] at h1
    rw [e, h1, bytes_rd ws _ (hB.drop _) (by rw [List.length_drop]; omega), List.take_add]
theorem fieldsJ_widths (j : Journey) : (fieldsJ j).map (·.width) = widthsL := rfl
theorem fieldsJ_values (j : Journey) : (fieldsJ j).map (·.value) = numbersJ j := rfl
theorem parse_form {j : Journey} (h : goodJ j = true) (rest : List Int) : parseJ (formJ j ++ rest) = j := by
  have := rd_bytes (fieldsJ j) rest (fieldsJ_right h) (by intro f hf; simp [fieldsJ] at hf; rcases hf with rfl | rfl | rfl | rfl | rfl | rfl | rfl | rfl | rfl | rfl <;> rfl)
  rw [fieldsJ_widths, fieldsJ_values] at this
  unfold parseJ formJ
  rw [this]
  rfl
theorem form_parse {b : List Int} (hB : isB b) (hl : 19 ≤ b.length) : formJ (parseJ b) = b.take 19 := by
  have := bytes_rd widthsL b hB hl
  exact this
theorem parseJs_form : ∀ (js : List Journey) (rest : List Int), good js = true → parseJs js.length (form js ++ rest) = js
  | [], _, _ => rfl
  | j :: js, rest, h => by
    have h : goodJ j = true ∧ good js = true := by simpa [good] using h
    have e : form (j :: js) ++ rest = formJ j ++ (form js ++ rest) := by simp [form]
    have hl := formJ_length j
    rw [e, List.length_cons]
    simp only [parseJs]
    rw [parse_form h.1, List.drop_append_of_le_length (by omega), List.drop_of_length_le (by omega), List.nil_append, parseJs_form js rest h.2]
theorem form_parseJs : ∀ (n : Nat) (b : List Int), isB b → 19 * n ≤ b.length → form (parseJs n b) = b.take (19 * n)
  | 0, b, _, _ => by simp [parseJs, form]
  | n + 1, b, hB, hl => by
    have e : form (parseJ b :: parseJs n (b.drop 19)) = formJ (parseJ b) ++ form (parseJs n (b.drop 19)) := by simp [form]
    rw [parseJs, e, form_parse hB (by omega), form_parseJs n _ (hB.drop 19) (by rw [List.length_drop]; omega), show 19 * (n + 1) = 19 + 19 * n by omega, List.take_add]
theorem getJ_form {js : List Journey} (h : good js = true) : getJE (form js) = 0 ∧ getJ (form js) = js := by
  have hl := form_length js
  have hp := parseJs_form js [] h
  rw [List.append_nil] at hp
  have e : getJE (form js) = 0 := by
    unfold getJE
    rw [if_neg (by omega), show (form js).length / 19 = js.length by omega, hp, if_pos h]
  refine ⟨e, ?_⟩
  unfold getJ
  rw [if_pos e, show (form js).length / 19 = js.length by omega, hp]
theorem form_getJ {b : List Int} (hB : isB b) : good (getJ b) = true ∧ (getJE b = 0 → form (getJ b) = b) := by
  unfold getJ
  by_cases e : getJE b = 0
  · rw [if_pos e]
    have e' := e
    unfold getJE at e'
    split at e'
    · cases e'
    split at e'
    · rename_i h1 h2
      refine ⟨h2, fun _ => ?_⟩
      rw [form_parseJs _ _ hB (by omega), List.take_of_length_le (by omega)]
    · cases e'
  · rw [if_neg e]
    exact ⟨rfl, fun h => absurd h e⟩
def IFJ (js : List Journey) (i : Int) (gd : Bool) (want : List Int) (sum : Int) : Prop := ∃ j : Nat, j ≤ js.length ∧ i = j ∧ gd = good (js.take j) ∧ (gd = true → want = form (js.take j) ∧ sum = ((js.take j).map (·.fare)).sum) ∧ want.length ≤ 19 * j
theorem ifj_good {js : List Journey} {j : Nat} {want : List Int} {sum : Int} (hj : j < js.length) (hL : js.length ≤ 1048576) (hg : good (js.take j) = true) (hx : goodJ (js.getD j ⟨0, 0, 0, 0, 0, 0, 0, 0, 0, 0⟩) = true)
    (hw : good (js.take j) = true → want = form (js.take j) ∧ sum = ((js.take j).map (·.fare)).sum) (hl : want.length ≤ 19 * j) :
    IFJ js (IntKind.i64.wrap ((j : Int) + 1)) (goodJ (js.getD j ⟨0, 0, 0, 0, 0, 0, 0, 0, 0, 0⟩)) (want ++ formJ (js.getD j ⟨0, 0, 0, 0, 0, 0, 0, 0, 0, 0⟩)) (IntKind.i64.wrap (sum + (js.getD j ⟨0, 0, 0, 0, 0, 0, 0, 0, 0, 0⟩).fare)) := by
  have ht := take_getD (d := (⟨0, 0, 0, 0, 0, 0, 0, 0, 0, 0⟩ : Journey)) hj
  have hs := sum_le (fares_in hg)
  rw [List.length_map, List.length_take] at hs
  have hf := ((goodJ_iff _).1 hx).2.2.2.2.2.2.2.2.1
  have hfl := formJ_length (js.getD j ⟨0, 0, 0, 0, 0, 0, 0, 0, 0, 0⟩)
  obtain ⟨rfl, rfl⟩ := hw hg
  generalize js.getD j ⟨0, 0, 0, 0, 0, 0, 0, 0, 0, 0⟩ = x at *
  refine ⟨j + 1, by omega, by rw [wrap64] <;> omega, ?_, fun _ => ⟨?_, ?_⟩, ?_⟩
  · rw [ht, good_snoc, hg, Bool.true_and]
  · rw [ht, form_snoc]
  · rw [ht, wrap64 (by omega) (by omega)]; simp
  · rw [List.length_append]; omega
theorem ifj_bad {js : List Journey} {j : Nat} {want : List Int} {sum : Int} (hj : j < js.length) (hL : js.length ≤ 1048576) (h : good (js.take j) = false ∨ goodJ (js.getD j ⟨0, 0, 0, 0, 0, 0, 0, 0, 0, 0⟩) = false) (hl : want.length ≤ 19 * j) :
    IFJ js (IntKind.i64.wrap ((j : Int) + 1)) false want sum := by
  have ht := take_getD (d := (⟨0, 0, 0, 0, 0, 0, 0, 0, 0, 0⟩ : Journey)) hj
  refine ⟨j + 1, by omega, by rw [wrap64] <;> omega, ?_, (fun h => by cases h), by omega⟩
  rw [ht, good_snoc]
  rcases h with h | h <;> rw [h] <;> simp
theorem putJ_length (js : List Journey) : (putJ js).length ≤ 19 * js.length := by
  unfold putJ
  split
  · rw [form_length]; exact Nat.le_refl _
  · simp


end Go.Proofs.Ytncdakkigkmfjaa.Sx
