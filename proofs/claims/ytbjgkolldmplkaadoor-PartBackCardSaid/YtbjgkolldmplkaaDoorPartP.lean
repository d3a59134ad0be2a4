/- Plain laws of partitions: classes of bytes, and the parts that they make. -/
import Derived.Test.YtbjgkolldmplkaaDoorSetW
namespace Go.Proofs.YtbjgkolldmplkaaDoor

/-- A row of sets, as values, four a set. -/
def setVals (L : List (Nat → Bool)) : List Value := L.flatMap fun m => (sCells m).toList

theorem setVals_cons (m : Nat → Bool) (L : List (Nat → Bool)) : setVals (m :: L) = (sCells m).toList ++ setVals L := rfl

theorem setVals_length (L : List (Nat → Bool)) : (setVals L).length = L.length * 4 := by
  induction L with
  | nil => rfl
  | cons m L ih => rw [setVals_cons, List.length_append, ih, List.length_cons]; simp [sCells]; omega

theorem setVals_get : ∀ (L : List (Nat → Bool)) (k j : Nat) (hk : k < L.length), j < 4 → (setVals L)[k * 4 + j]? = some (.int .u64 ((word L[k] j : Nat) : Int))
  | m :: L, 0, j, _, hj => by
    rw [setVals_cons, List.getElem?_append_left (by simp [sCells]; omega)]
    rw [Nat.zero_mul, Nat.zero_add]
    exact (Array.getElem?_toList ..).trans (sCells_get m j hj)
  | m :: L, k + 1, j, hk, hj => by
    rw [setVals_cons, List.getElem?_append_right (by simp [sCells]; omega)]
    have := setVals_get L k j (by simpa using hk) hj
    rw [show (k + 1) * 4 + j - (sCells m).toList.length = k * 4 + j by simp [sCells]; omega]
    exact this

theorem setVals_snoc (L : List (Nat → Bool)) (m : Nat → Bool) : setVals L ++ [.int .u64 ((word m 0 : Nat) : Int), .int .u64 ((word m 1 : Nat) : Int), .int .u64 ((word m 2 : Nat) : Int), .int .u64 ((word m 3 : Nat) : Int)] = setVals (L ++ [m]) := by
  simp [setVals, sCells]

theorem setVals_set : ∀ (L : List (Nat → Bool)) (k : Nat) (m : Nat → Bool), k < L.length →
    ((((setVals L).set (k * 4) (.int .u64 ((word m 0 : Nat) : Int))).set (k * 4 + 1) (.int .u64 ((word m 1 : Nat) : Int))).set (k * 4 + 2) (.int .u64 ((word m 2 : Nat) : Int))).set (k * 4 + 3) (.int .u64 ((word m 3 : Nat) : Int)) = setVals (L.set k m)
  | x :: L, 0, m, _ => by
    rw [setVals_cons, List.set_cons_zero, setVals_cons]
    simp [sCells]
  | x :: L, k + 1, m, h => by
    have ih := setVals_set L k m (by simpa using h)
    rw [setVals_cons, List.set_cons_succ, setVals_cons, ← ih]
    have e : (sCells x).toList.length = 4 := rfl
    rw [List.set_append_right _ _ (by omega), List.set_append_right _ _ (by omega), List.set_append_right _ _ (by omega), List.set_append_right _ _ (by omega)]
    rw [e, show (k + 1) * 4 - 4 = k * 4 by omega, show (k + 1) * 4 + 1 - 4 = k * 4 + 1 by omega, show (k + 1) * 4 + 2 - 4 = k * 4 + 2 by omega, show (k + 1) * 4 + 3 - 4 = k * 4 + 3 by omega]

/-- How many classes the first n bytes have, each as its number says. -/
def nxN (g : Nat → Nat) : Nat → Nat
  | 0 => 0
  | n + 1 => max (nxN g n) (g n + 1)

/-- Each class comes up first behind those before it. -/
def Rgs (g : Nat → Nat) (n : Nat) : Prop := ∀ b, b < n → g b ≤ nxN g b

theorem nxN_mono (g : Nat → Nat) : ∀ {a b : Nat}, a ≤ b → nxN g a ≤ nxN g b
  | a, 0, h => by rw [show a = 0 by omega]; exact Nat.le_refl _
  | a, b + 1, h => by
    by_cases e : a = b + 1
    · subst e; exact Nat.le_refl _
    · have := nxN_mono g (show a ≤ b by omega)
      rw [nxN]; omega

theorem nxN_gt (g : Nat → Nat) {a b : Nat} (h : a < b) : g a < nxN g b := by
  have := nxN_mono g (show a + 1 ≤ b from h)
  rw [nxN] at this
  omega

theorem nxN_le {g : Nat → Nat} : ∀ n, Rgs g n → nxN g n ≤ n
  | 0, _ => Nat.le_refl _
  | n + 1, h => by
    have := nxN_le n fun b hb => h b (by omega)
    have := h n (by omega)
    rw [nxN]; omega

theorem nxN_congr {g h : Nat → Nat} : ∀ n, (∀ b, b < n → g b = h b) → nxN g n = nxN h n
  | 0, _ => rfl
  | n + 1, e => by rw [nxN, nxN, nxN_congr n (fun b hb => e b (by omega)), e n (by omega)]

theorem Rgs.mono {g : Nat → Nat} {n k : Nat} (h : Rgs g n) (hk : k ≤ n) : Rgs g k := fun b hb => h b (by omega)

theorem Rgs.congr {g h : Nat → Nat} {n : Nat} (hg : Rgs g n) (e : ∀ b, b < n → g b = h b) : Rgs h n := fun b hb => by
  rw [← e b hb, ← nxN_congr b fun c hc => e c (by omega)]
  exact hg b hb

/-- Each class below the number of classes has its first byte. -/
theorem Rgs.first {g : Nat → Nat} : ∀ {n : Nat}, Rgs g n → ∀ k, k < nxN g n → ∃ b, b < n ∧ g b = k ∧ nxN g b = k
  | 0, _, k, hk => absurd hk (by simp [nxN])
  | n + 1, h, k, hk => by
    by_cases hkn : k < nxN g n
    · obtain ⟨b, h1, h2, h3⟩ := Rgs.first (h.mono (Nat.le_succ n)) k hkn
      exact ⟨b, by omega, h2, h3⟩
    · have := h n (by omega)
      rw [nxN] at hk
      exact ⟨n, by omega, by omega, by omega⟩

/-- The parts of the first n bytes. -/
def partN (g : Nat → Nat) (n : Nat) : List (Nat → Bool) := (List.range (nxN g n)).map fun k b => decide (b < n) && g b == k

theorem partN_length (g : Nat → Nat) (n : Nat) : (partN g n).length = nxN g n := by simp [partN]

theorem partN_get (g : Nat → Nat) (n k : Nat) (hk : k < nxN g n) : (partN g n)[k]? = some fun b => decide (b < n) && g b == k := by simp [partN, hk]

theorem partN_at (g : Nat → Nat) (n k : Nat) (hk : k < (partN g n).length) : (partN g n)[k] = fun b => decide (b < n) && g b == k := by simp [partN]

theorem partN_congr {g h : Nat → Nat} (n : Nat) (e : ∀ b, b < n → g b = h b) : partN g n = partN h n := by
  unfold partN
  rw [nxN_congr n e]
  apply List.map_congr_left
  intro k _
  funext b
  by_cases hb : b < n
  · rw [e b hb]
  · simp [hb]

/-- The row ahead of the byte n: longer by one if its class is new. -/
def preN (g : Nat → Nat) (n : Nat) : List (Nat → Bool) := if g n = nxN g n then partN g n ++ [sNone] else partN g n

theorem preN_length {g : Nat → Nat} {n : Nat} (h : g n ≤ nxN g n) : (preN g n).length = nxN g (n + 1) := by
  unfold preN
  rw [nxN]
  split
  · rw [List.length_append, partN_length]; simp; omega
  · rw [partN_length]; omega

theorem preN_get {g : Nat → Nat} {n : Nat} (h : g n ≤ nxN g n) (k : Nat) (hk : k < nxN g (n + 1)) : (preN g n)[k]? = some fun b => decide (b < n) && g b == k := by
  rw [nxN] at hk
  unfold preN
  split
  · rename_i e
    by_cases hkn : k < nxN g n
    · rw [List.getElem?_append_left (by rw [partN_length]; exact hkn), partN_get g n k hkn]
    · have ek : k = nxN g n := by omega
      subst ek
      rw [List.getElem?_append_right (by rw [partN_length]; omega), partN_length]
      simp only [Nat.sub_self, List.getElem?_cons_zero, Option.some.injEq]
      funext b
      by_cases hb : b < n
      · have := nxN_gt g hb
        simp [sNone, hb]; omega
      · simp [sNone, hb]
  · rw [partN_get g n k (by omega)]

theorem partN_step {g : Nat → Nat} {n : Nat} (h : g n ≤ nxN g n) (hl : g n < (preN g n).length) : partN g (n + 1) = (preN g n).set (g n) (sAny (preN g n)[g n] (sOf [n])) := by
  have e0 := preN_get h (g n) (by rw [← preN_length h]; exact hl)
  rw [List.getElem?_eq_getElem hl, Option.some.injEq] at e0
  apply List.ext_getElem?
  intro k
  rw [List.getElem?_set]
  by_cases hk : k < nxN g (n + 1)
  · rw [partN_get g (n + 1) k hk, preN_get h k hk]
    by_cases hg : g n = k
    · rw [if_pos hg, if_pos hl, e0, Option.some.injEq]
      funext b
      subst hg
      simp only [sAny, sOf, List.contains_cons, List.contains_nil, Bool.or_false]
      by_cases hb : b = n
      · subst hb; simp
      · have : (b < n + 1) = (b < n) := by apply propext; omega
        have hbn : (b == n) = false := by simpa using hb
        simp only [this, hbn, Bool.or_false]
    · rw [if_neg hg, Option.some.injEq]
      funext b
      by_cases hb : b = n
      · subst hb
        have : (g b == k) = false := by simpa using hg
        simp [this]
      · have : (b < n + 1) = (b < n) := by apply propext; omega
        simp only [this]
  · rw [List.getElem?_eq_none (by rw [partN_length]; omega), List.getElem?_eq_none (by rw [preN_length h]; omega)]
    by_cases hg : g n = k
    · rw [preN_length h] at hl
      omega
    · rw [if_neg hg]

/-- What each set says of a byte. -/
def keyL (L : List (Nat → Bool)) (b : Nat) : List Bool := L.map fun m => m b

/-- The first ones of each class below n. -/
def firsts (K : Nat → List Bool) : Nat → List Nat
  | 0 => []
  | n + 1 => if (firsts K n).any (fun a => K a == K n) then firsts K n else firsts K n ++ [n]

/-- The class of a byte: how many classes came up ahead of its own. -/
def cl (K : Nat → List Bool) (b : Nat) : Nat := (firsts K b).findIdx (fun a => K a == K b)

theorem cl_le (K : Nat → List Bool) (b : Nat) : cl K b ≤ (firsts K b).length := List.findIdx_le_length

theorem cl_old (K : Nat → List Bool) (b : Nat) (h : (firsts K b).any (fun a => K a == K b) = true) : cl K b < (firsts K b).length := by
  obtain ⟨a, ha, he⟩ := List.any_eq_true.1 h
  exact List.findIdx_lt_length_of_exists ⟨a, ha, he⟩

theorem cl_new (K : Nat → List Bool) (b : Nat) (h : (firsts K b).any (fun a => K a == K b) = false) : cl K b = (firsts K b).length := by
  unfold cl
  rw [List.findIdx_eq_length]
  intro a ha
  have := List.any_eq_false.1 h a ha
  simpa using this

theorem firsts_length (K : Nat → List Bool) : ∀ n, (firsts K n).length = nxN (cl K) n
  | 0 => rfl
  | n + 1 => by
    have ih := firsts_length K n
    rw [firsts, nxN]
    cases h : (firsts K n).any (fun a => K a == K n)
    · have := cl_new K n h
      simp only [Bool.false_eq_true, if_false, List.length_append, List.length_cons, List.length_nil]
      omega
    · have := cl_old K n h
      simp only [if_true]
      omega

theorem cl_rgs (K : Nat → List Bool) (n : Nat) : Rgs (cl K) n := fun b _ => by
  rw [← firsts_length]
  exact cl_le K b

/-- If the classes of K are those of g, and g counts as they come up, they are g. -/
theorem cl_eq {K : Nat → List Bool} {g : Nat → Nat} : ∀ n, Rgs g n → (∀ a b, a < n → b < n → (K a = K b ↔ g a = g b)) →
    (firsts K n).length = nxN g n ∧ (∀ i (hi : i < (firsts K n).length), (firsts K n)[i] < n ∧ g (firsts K n)[i] = i) ∧ ∀ b, b < n → cl K b = g b
  | 0, _, _ => ⟨rfl, fun i hi => absurd hi (by simp [firsts]), fun b hb => absurd hb (by omega)⟩
  | n + 1, hr, he => by
    obtain ⟨h1, h2, h3⟩ := cl_eq n (hr.mono (Nat.le_succ n)) fun a b ha hb => he a b (by omega) (by omega)
    have hgn := hr n (by omega)
    have hcl : cl K n = g n := by
      cases h : (firsts K n).any (fun a => K a == K n)
      · have hc := cl_new K n h
        rw [hc, h1]
        rcases Nat.lt_or_ge (g n) (nxN g n) with hlt | hge
        · obtain ⟨q1, q2⟩ := h2 (g n) (by omega)
          have := List.any_eq_false.1 h _ (List.getElem_mem (show g n < (firsts K n).length by omega))
          have hk := (he _ n (by omega) (by omega)).2 q2
          exact absurd hk (by simpa using this)
        · omega
      · have hc := cl_old K n h
        have hx : (K ((firsts K n)[cl K n]'hc) == K n) = true := List.findIdx_getElem (xs := firsts K n) (p := fun a => K a == K n) (w := hc)
        obtain ⟨q1, q2⟩ := h2 (cl K n) hc
        have hk : K (firsts K n)[cl K n] = K n := beq_iff_eq.1 hx
        have := (he _ n (by omega) (by omega)).1 hk
        omega
    have h3' : ∀ b, b < n + 1 → cl K b = g b := fun b hb => by
      by_cases e : b = n
      · subst e; exact hcl
      · exact h3 b (by omega)
    refine ⟨by rw [firsts_length]; exact nxN_congr _ h3', ?_, h3'⟩
    rw [firsts]
    cases h : (firsts K n).any (fun a => K a == K n)
    · simp only [Bool.false_eq_true, if_false]
      intro i hi
      by_cases hin : i < (firsts K n).length
      · rw [List.getElem_append_left hin]
        have := h2 i hin
        exact ⟨by omega, this.2⟩
      · rw [List.length_append, List.length_cons, List.length_nil] at hi
        have ei : i = (firsts K n).length := by omega
        subst ei
        rw [List.getElem_append_right (Nat.le_refl _)]
        simp only [Nat.sub_self, List.getElem_cons_zero]
        have := cl_new K n h
        exact ⟨by omega, by omega⟩
    · simp only [if_true]
      intro i hi
      have := h2 i hi
      exact ⟨by omega, this.2⟩

/-- The classes of K are K's own. -/
theorem cl_iff (K : Nat → List Bool) : ∀ n, (∀ i (hi : i < (firsts K n).length), (firsts K n)[i] < n ∧ cl K (firsts K n)[i] = i) ∧ ∀ b, b < n → ∃ h : cl K b < (firsts K n).length, K (firsts K n)[cl K b] = K b
  | 0 => ⟨fun i hi => absurd hi (by simp [firsts]), fun b hb => absurd hb (by omega)⟩
  | n + 1 => by
    obtain ⟨h1, h2⟩ := cl_iff K n
    rw [firsts]
    cases h : (firsts K n).any (fun a => K a == K n)
    · have hc := cl_new K n h
      simp only [Bool.false_eq_true, if_false]
      refine ⟨fun i hi => ?_, fun b hb => ?_⟩
      · by_cases hin : i < (firsts K n).length
        · rw [List.getElem_append_left hin]
          have := h1 i hin
          exact ⟨by omega, this.2⟩
        · rw [List.length_append, List.length_cons, List.length_nil] at hi
          have ei : i = (firsts K n).length := by omega
          subst ei
          rw [List.getElem_append_right (Nat.le_refl _)]
          simp only [Nat.sub_self, List.getElem_cons_zero]
          exact ⟨by omega, hc⟩
      · by_cases e : b = n
        · subst e
          refine ⟨by rw [hc, List.length_append]; simp, ?_⟩
          simp only [hc]
          rw [List.getElem_append_right (Nat.le_refl _)]
          simp
        · obtain ⟨q, hq⟩ := h2 b (by omega)
          exact ⟨by rw [List.length_append]; omega, by rw [List.getElem_append_left q]; exact hq⟩
    · have hc := cl_old K n h
      simp only [if_true]
      refine ⟨fun i hi => ?_, fun b hb => ?_⟩
      · have := h1 i hi
        exact ⟨by omega, this.2⟩
      · by_cases e : b = n
        · subst e
          have hx : (K ((firsts K b)[cl K b]'hc) == K b) = true := List.findIdx_getElem (xs := firsts K b) (p := fun a => K a == K b) (w := hc)
          exact ⟨hc, beq_iff_eq.1 hx⟩
        · exact h2 b (by omega)

theorem firsts_apart (K : Nat → List Bool) : ∀ n, (firsts K n).Pairwise fun a b => K a ≠ K b
  | 0 => .nil
  | n + 1 => by
    rw [firsts]
    cases h : (firsts K n).any (fun a => K a == K n)
    · simp only [Bool.false_eq_true, if_false]
      refine List.pairwise_append.2 ⟨firsts_apart K n, List.pairwise_singleton _ _, fun a ha b hb => ?_⟩
      obtain rfl : b = n := by simpa using hb
      have := List.any_eq_false.1 h a ha
      simpa using this
    · simp only [if_true]
      exact firsts_apart K n

theorem cl_same (K : Nat → List Bool) (a b : Nat) : cl K a = cl K b ↔ K a = K b := by
  obtain ⟨_, h2⟩ := cl_iff K (max a b + 1)
  obtain ⟨qa, ha⟩ := h2 a (by omega)
  obtain ⟨qb, hb⟩ := h2 b (by omega)
  constructor
  · intro e
    rw [← ha, ← hb]
    simp only [e]
  · intro e
    have hp := List.pairwise_iff_getElem.1 (firsts_apart K (max a b + 1))
    rcases Nat.lt_trichotomy (cl K a) (cl K b) with h | h | h
    · exact absurd (ha.trans (e.trans hb.symm)) (hp _ _ qa qb h)
    · exact h
    · exact absurd (hb.trans (e.symm.trans ha.symm)) (hp _ _ qb qa h)

end Go.Proofs.YtbjgkolldmplkaaDoor
