/- Plain laws: what a partition is, as Right and Class ask it; its classes. -/
import Derived.Test.YtbjgkolldmplkaaDoorRight
import Derived.Test.YtbjgkolldmplkaaDoorClasses
namespace Go.Proofs.YtbjgkolldmplkaaDoor
open Go.RowKit Go.Sort

/-- L is the parts of g. -/
def IsPart (L : List (Nat → Bool)) (g : Nat → Nat) : Prop :=
  Rgs g 256 ∧ nxN g 256 = L.length ∧ ∀ i, i < L.length → ∀ b, b < 256 → L.getD i sNone b = (g b == i)

theorem IsPart.lt {L : List (Nat → Bool)} {g : Nat → Nat} (h : IsPart L g) {b : Nat} (hb : b < 256) : g b < L.length := by
  rw [← h.2.1]; exact nxN_gt g hb

theorem part_isPart {g : Nat → Nat} (h : Rgs g 256) : IsPart (partN g 256) g := by
  refine ⟨h, (partN_length g 256).symm, fun i hi b hb => ?_⟩
  rw [List.getD_eq_getElem?_getD, List.getElem?_eq_getElem hi, partN_at g 256 i hi]
  simp [hb]

/-! Right. -/

theorem rtIn_fwd {L : List (Nat → Bool)} {b x j n : Nat} (hu : ∀ i, i < n → L.getD i sNone b = (j == i)) : ∀ k, k ≤ n →
    rtIn L b x k = if j < k then (if j ≤ x then some (1, if j = x then x + 1 else x) else none) else some (0, x)
  | 0, _ => by rw [rtIn, if_neg (by omega)]
  | k + 1, hk => by
    have ih := rtIn_fwd (x := x) hu k (by omega)
    have hu2 := hu k (by omega)
    rw [rtIn, ih]
    by_cases h1 : j < k
    · have e : (j == k) = false := by rw [beq_eq_false_iff_ne]; omega
      rw [e] at hu2
      rw [if_pos h1, if_pos (show j < k + 1 by omega)]
      by_cases h2 : j ≤ x
      · simp only [if_pos h2, hu2, Bool.false_eq_true, if_false]
      · simp only [if_neg h2]
    · rw [if_neg h1]
      by_cases h2 : j = k
      · subst h2
        rw [beq_self_eq_true] at hu2
        rw [if_pos (show j < j + 1 by omega)]
        simp only [hu2, if_true]
        by_cases h3 : x < j
        · rw [if_pos h3, if_neg (show ¬ j ≤ x by omega)]
        · rw [if_neg h3, if_pos (show j ≤ x by omega)]
      · have e : (j == k) = false := by rw [beq_eq_false_iff_ne]; exact h2
        rw [e] at hu2
        rw [if_neg (show ¬ j < k + 1 by omega)]
        simp only [hu2, Bool.false_eq_true, if_false]

theorem rtOut_fwd {L : List (Nat → Bool)} {g : Nat → Nat} (h : IsPart L g) : ∀ b, b ≤ 256 → rtOut L b = some (nxN g b)
  | 0, _ => rfl
  | b + 1, hb => by
    have ih := rtOut_fwd h b (by omega)
    have hl := h.lt (show b < 256 by omega)
    have hr := h.1 b (by omega)
    have hin := rtIn_fwd (L := L) (x := nxN g b) (fun i hi => h.2.2 i hi b (by omega)) L.length (Nat.le_refl _)
    rw [if_pos hl, if_pos hr] at hin
    rw [rtOut, ih]
    simp only [hin, if_true]
    rw [nxN]
    refine congrArg some ?_
    split <;> omega

theorem right_of_part {L : List (Nat → Bool)} {g : Nat → Nat} (h : IsPart L g) : rightL L = true := by
  unfold rightL
  rw [rtOut_fwd h 256 (Nat.le_refl _), h.2.1, beq_self_eq_true]

theorem rtIn_prev {L : List (Nat → Bool)} {b x k : Nat} {p : Nat × Nat} (h : rtIn L b x (k + 1) = some p) :
    ∃ q, rtIn L b x k = some q ∧ ((L.getD k sNone b = true ∧ p.1 = q.1 + 1) ∨ (L.getD k sNone b = false ∧ p = q)) := by
  rw [rtIn] at h
  cases hh : rtIn L b x k with
  | none => rw [hh] at h; cases h
  | some q =>
    obtain ⟨n, y⟩ := q
    refine ⟨_, rfl, ?_⟩
    rw [hh] at h
    cases hv : L.getD k sNone b
    · simp only [hv, Bool.false_eq_true, if_false] at h
      exact .inr ⟨rfl, (Option.some.inj h).symm⟩
    · simp only [hv, if_true] at h
      split at h
      · cases h
      · exact .inl ⟨rfl, by rw [← Option.some.inj h]⟩

theorem rtIn0 {L : List (Nat → Bool)} {b x : Nat} : ∀ (k : Nat) (p : Nat × Nat), rtIn L b x k = some p → p.1 = 0 → ∀ i, i < k → L.getD i sNone b = false
  | 0, _, _, _, i, hi => absurd hi (by omega)
  | k + 1, p, h, hp, i, hi => by
    obtain ⟨q, hq, h1 | h1⟩ := rtIn_prev h
    · omega
    · obtain ⟨h2, rfl⟩ := h1
      by_cases e : i = k
      · subst e; exact h2
      · exact rtIn0 k p hq hp i (by omega)

theorem rtIn1 {L : List (Nat → Bool)} {b x : Nat} : ∀ (k : Nat) (p : Nat × Nat), rtIn L b x k = some p → p.1 = 1 → ∃ j, j < k ∧ ∀ i, i < k → L.getD i sNone b = (j == i)
  | 0, p, h, hp => by
    rw [rtIn] at h
    rw [← Option.some.inj h] at hp
    cases hp
  | k + 1, p, h, hp => by
    obtain ⟨q, hq, h1 | h1⟩ := rtIn_prev h
    · have h0 := rtIn0 k q hq (by omega)
      refine ⟨k, by omega, fun i hi => ?_⟩
      by_cases e : i = k
      · subst e; rw [h1.1, beq_self_eq_true]
      · rw [h0 i (by omega)]
        exact (beq_eq_false_iff_ne.2 (by omega)).symm
    · obtain ⟨h2, rfl⟩ := h1
      obtain ⟨j, hj, hu⟩ := rtIn1 k p hq hp
      refine ⟨j, by omega, fun i hi => ?_⟩
      by_cases e : i = k
      · subst e
        rw [h2]
        exact (beq_eq_false_iff_ne.2 (by omega)).symm
      · exact hu i (by omega)

theorem rtOut_prev {L : List (Nat → Bool)} {b y : Nat} (h : rtOut L (b + 1) = some y) : ∃ x, rtOut L b = some x ∧ rtIn L b x L.length = some (1, y) := by
  rw [rtOut] at h
  cases hh : rtOut L b with
  | none => rw [hh] at h; cases h
  | some x =>
    refine ⟨x, rfl, ?_⟩
    rw [hh] at h
    simp only at h
    cases hi : rtIn L b x L.length with
    | none => rw [hi] at h; cases h
    | some p =>
      obtain ⟨n, z⟩ := p
      rw [hi] at h
      simp only at h
      split at h
      · rename_i e
        rw [e, Option.some.inj h]
      · cases h

theorem rtOut_some {L : List (Nat → Bool)} {z b n : Nat} (h : rtOut L n = some z) (hb : b ≤ n) : ∃ x, rtOut L b = some x := by
  cases hh : rtOut L b with
  | none => rw [rtOut_none n b hb hh] at h; cases h
  | some x => exact ⟨x, rfl⟩

theorem part_of_right {L : List (Nat → Bool)} (h : rightL L = true) : ∃ g, IsPart L g := by
  have h0 : rtOut L 256 = some L.length := by unfold rightL at h; exact beq_iff_eq.1 h
  have h1 : ∀ b, ∃ j, b < 256 → j < L.length ∧ ∀ i, i < L.length → L.getD i sNone b = (j == i) := fun b => by
    by_cases hb : b < 256
    · obtain ⟨y, hy⟩ := rtOut_some h0 (show b + 1 ≤ 256 by omega)
      obtain ⟨x, _, hx⟩ := rtOut_prev hy
      obtain ⟨j, h1, h2⟩ := rtIn1 _ _ hx rfl
      exact ⟨j, fun _ => ⟨h1, h2⟩⟩
    · exact ⟨0, fun h => absurd h hb⟩
  obtain ⟨g, hg⟩ : ∃ g : Nat → Nat, ∀ b, b < 256 → g b < L.length ∧ ∀ i, i < L.length → L.getD i sNone b = (g b == i) :=
    ⟨fun b => Classical.choose (h1 b), fun b => Classical.choose_spec (h1 b)⟩
  have h2 : ∀ b, b ≤ 256 → rtOut L b = some (nxN g b) ∧ Rgs g b := by
    intro b
    induction b with
    | zero => exact fun _ => ⟨rfl, fun b hb => absurd hb (by omega)⟩
    | succ b ih =>
      intro hb
      obtain ⟨i1, i2⟩ := ih (by omega)
      obtain ⟨y, hy⟩ := rtOut_some h0 hb
      obtain ⟨x, hx, hi⟩ := rtOut_prev hy
      have hyy := hy
      rw [i1] at hx
      obtain rfl := Option.some.inj hx
      obtain ⟨g1, g2⟩ := hg b (by omega)
      rw [rtIn_fwd g2 L.length (Nat.le_refl _), if_pos g1] at hi
      by_cases hle : g b ≤ nxN g b
      · rw [if_pos hle] at hi
        injection hi with hi
        injection hi with _ hi
        refine ⟨?_, fun c hc => ?_⟩
        · clear h0 hy hx
          rw [hyy, nxN, ← hi]
          refine congrArg some ?_
          split <;> omega
        · by_cases e : c = b
          · subst e; exact hle
          · exact i2 c (by omega)
      · rw [if_neg hle] at hi
        cases hi
  obtain ⟨e1, e2⟩ := h2 256 (Nat.le_refl _)
  refine ⟨g, e2, ?_, fun i hi b hb => (hg b hb).2 i hi⟩
  rw [e1] at h0
  exact Option.some.inj h0

/-! Class. -/

theorem clsA_fwd {L : List (Nat → Bool)} {b j n : Nat} (hu : ∀ i, i < n → L.getD i sNone b = (j == i)) : ∀ k, k ≤ n → clsA L k b = if j < k then (j : Int) else -1
  | 0, _ => by rw [clsA, if_neg (by omega)]
  | k + 1, hk => by
    rw [clsA, clsA_fwd hu k (by omega), hu k (by omega)]
    by_cases e : j = k
    · subst e
      rw [beq_self_eq_true, if_pos rfl, if_pos (by omega)]
    · have : (j == k) = false := by rw [beq_eq_false_iff_ne]; exact e
      rw [this]
      simp only [Bool.false_eq_true, if_false]
      by_cases h : j < k
      · rw [if_pos h, if_pos (by omega)]
      · rw [if_neg h, if_neg (by omega)]

theorem least_hit {m : Nat → Bool} (h : sLeast m < 256) : m (sLeast m) = true := (leastTo_spec m 256).2.2 h
theorem least_le {m : Nat → Bool} {b : Nat} (hm : m b = true) : sLeast m ≤ b := by
  rcases Nat.lt_or_ge b (sLeast m) with h | h
  · have := (leastTo_spec m 256).2.1 b h
    rw [this] at hm
    cases hm
  · exact h

theorem noHit_all {m : Nat → Bool} {f : Nat → Int} : ∀ n, noHit m f n = true ↔ ∀ b, b < n → m b = true → f b < 0
  | 0 => ⟨fun _ b hb => absurd hb (by omega), fun _ => rfl⟩
  | n + 1 => by
    rw [noHit, Bool.and_eq_true, noHit_all n]
    constructor
    · rintro ⟨h1, h2⟩ b hb hm
      by_cases e : b = n
      · subst e
        rw [hm] at h2
        simpa using h2
      · exact h1 b (by omega) hm
    · intro h
      refine ⟨fun b hb hm => h b (by omega) hm, ?_⟩
      cases hm : m n
      · rfl
      · have := h n (by omega) hm
        simpa using this

theorem covI_all {f : Nat → Int} : ∀ n, covI f n = true ↔ ∀ b, b < n → 0 ≤ f b
  | 0 => ⟨fun _ b hb => absurd hb (by omega), fun _ => rfl⟩
  | n + 1 => by
    rw [covI, Bool.and_eq_true, covI_all n, decide_eq_true_eq]
    constructor
    · rintro ⟨h1, h2⟩ b hb
      by_cases e : b = n
      · subst e; exact h2
      · exact h1 b (by omega)
    · intro h
      exact ⟨fun b hb => h b (by omega), h n (by omega)⟩

theorem okC_all {L : List (Nat → Bool)} : ∀ n, okC L n = true ↔ ∀ i, i < n → sLeast (L.getD i sNone) < 256 ∧ lastI L i < ((sLeast (L.getD i sNone) : Nat) : Int) ∧ noHit (L.getD i sNone) (clsA L i) 256 = true
  | 0 => ⟨fun _ b hb => absurd hb (by omega), fun _ => rfl⟩
  | n + 1 => by
    rw [okC, Bool.and_eq_true, okC_all n, Bool.and_eq_true, Bool.and_eq_true, decide_eq_true_eq, decide_eq_true_eq]
    constructor
    · rintro ⟨h1, h2⟩ b hb
      by_cases e : b = n
      · subst e; exact h2
      · exact h1 b (by omega)
    · intro h
      exact ⟨fun b hb => h b (by omega), h n (by omega)⟩

theorem class_of_part {L : List (Nat → Bool)} {g : Nat → Nat} (h : IsPart L g) : classB L = true := by
  have hc : ∀ b, b < 256 → ∀ k, k ≤ L.length → clsA L k b = if g b < k then (g b : Int) else -1 := fun b hb => clsA_fwd fun i hi => h.2.2 i hi b hb
  unfold classB
  rw [Bool.and_eq_true, okC_all, covI_all]
  refine ⟨fun i hi => ⟨?_, ?_, ?_⟩, fun b hb => ?_⟩
  · obtain ⟨b, hb, hg, _⟩ := h.1.first i (by rw [h.2.1]; exact hi)
    have hm : L.getD i sNone b = true := by rw [h.2.2 i hi b hb, hg, beq_self_eq_true]
    have := least_le hm
    omega
  · cases i with
    | zero => rw [lastI]; omega
    | succ i =>
      rw [lastI]
      obtain ⟨b, hb, hg, _⟩ := h.1.first (i + 1) (by rw [h.2.1]; exact hi)
      have hm : L.getD (i + 1) sNone b = true := by rw [h.2.2 (i + 1) hi b hb, hg, beq_self_eq_true]
      have hs := least_le hm
      have hh := least_hit (m := L.getD (i + 1) sNone) (by omega)
      generalize sLeast (L.getD (i + 1) sNone) = s at *
      rw [h.2.2 (i + 1) hi s (by omega), beq_iff_eq] at hh
      have hr := h.1 s (by omega)
      obtain ⟨c, hc1, hc2, _⟩ := (h.1.mono (show s ≤ 256 by omega)).first i (by omega)
      have hm2 : L.getD i sNone c = true := by rw [h.2.2 i (by omega) c (by omega), hc2, beq_self_eq_true]
      have := least_le hm2
      omega
  · rw [noHit_all]
    intro b hb hm
    rw [h.2.2 i hi b hb, beq_iff_eq] at hm
    rw [hc b hb i (by omega), if_neg (by omega)]
    omega
  · rw [hc b hb L.length (Nat.le_refl _), if_pos (h.lt hb)]
    omega

theorem clsA_neg {L : List (Nat → Bool)} {b : Nat} : ∀ k, clsA L k b < 0 → ∀ i, i < k → L.getD i sNone b = false
  | 0, _, i, hi => absurd hi (by omega)
  | k + 1, h, i, hi => by
    rw [clsA] at h
    split at h
    · omega
    · rename_i hn
      by_cases e : i = k
      · subst e; simpa using hn
      · exact clsA_neg k h i (by omega)

theorem clsA_pos {L : List (Nat → Bool)} {b : Nat} : ∀ k, 0 ≤ clsA L k b → ∃ i, i < k ∧ L.getD i sNone b = true ∧ clsA L k b = (i : Int)
  | 0, h => by rw [clsA] at h; omega
  | k + 1, h => by
    rw [clsA] at h ⊢
    split
    · rename_i hm
      exact ⟨k, by omega, hm, rfl⟩
    · rename_i hn
      rw [if_neg hn] at h
      obtain ⟨i, h1, h2, h3⟩ := clsA_pos k h
      exact ⟨i, by omega, h2, h3⟩

theorem nxN_bound {g : Nat → Nat} {m : Nat} : ∀ n, (∀ b, b < n → g b < m) → nxN g n ≤ m
  | 0, _ => Nat.zero_le _
  | n + 1, h => by
    have h1 := nxN_bound n fun b hb => h b (by omega)
    have h2 := h n (by omega)
    rw [nxN]; omega

theorem part_of_class {L : List (Nat → Bool)} (h : classB L = true) : ∃ g, IsPart L g := by
  unfold classB at h
  rw [Bool.and_eq_true, okC_all, covI_all] at h
  obtain ⟨ho, hv⟩ := h
  have h1 : ∀ b, ∃ j, b < 256 → j < L.length ∧ ∀ i, i < L.length → L.getD i sNone b = (j == i) := fun b => by
    by_cases hb : b < 256
    · obtain ⟨j, hj, hm, _⟩ := clsA_pos L.length (hv b hb)
      refine ⟨j, fun _ => ⟨hj, fun i hi => ?_⟩⟩
      have ha := (noHit_all 256).1 (ho j hj).2.2 b hb hm
      rcases Nat.lt_trichotomy i j with e | e | e
      · rw [clsA_neg j ha i e]
        exact (beq_eq_false_iff_ne.2 (by omega)).symm
      · subst e; rw [hm, beq_self_eq_true]
      · cases hmi : L.getD i sNone b
        · exact (beq_eq_false_iff_ne.2 (by omega)).symm
        · have hb2 := (noHit_all 256).1 (ho i hi).2.2 b hb hmi
          rw [clsA_neg i hb2 j e] at hm
          cases hm
    · exact ⟨0, fun h => absurd h hb⟩
  obtain ⟨g, hg⟩ : ∃ g : Nat → Nat, ∀ b, b < 256 → g b < L.length ∧ ∀ i, i < L.length → L.getD i sNone b = (g b == i) :=
    ⟨fun b => Classical.choose (h1 b), fun b => Classical.choose_spec (h1 b)⟩
  have hit : ∀ i, i < L.length → g (sLeast (L.getD i sNone)) = i := fun i hi => by
    have hl := (ho i hi).1
    have hh := least_hit hl
    rw [(hg _ hl).2 i hi, beq_iff_eq] at hh
    exact hh
  refine ⟨g, fun b hb => ?_, ?_, fun i hi b hb => (hg b hb).2 i hi⟩
  · obtain ⟨g1, g2⟩ := hg b hb
    have hm : L.getD (g b) sNone b = true := by rw [g2 _ g1, beq_self_eq_true]
    have hs := least_le hm
    generalize hj : g b = j at *
    cases j with
    | zero => omega
    | succ j =>
      have hl := (ho (j + 1) g1).2.1
      rw [lastI] at hl
      have := nxN_gt g (show sLeast (L.getD j sNone) < b by omega)
      rw [hit j (by omega)] at this
      exact this
  · apply Nat.le_antisymm
    · exact nxN_bound 256 fun b hb => (hg b hb).1
    · cases hn : L.length with
      | zero => exact Nat.zero_le _
      | succ n =>
        have := nxN_gt g (ho n (by omega)).1
        rw [hit n (by omega)] at this
        exact this

theorem right_class (L : List (Nat → Bool)) : rightL L = classB L := by
  rw [Bool.eq_iff_iff]
  constructor
  · intro h
    obtain ⟨g, hg⟩ := part_of_right h
    exact class_of_part hg
  · intro h
    obtain ⟨g, hg⟩ := part_of_class h
    exact right_of_part hg

theorem part_keys {L : List (Nat → Bool)} {g : Nat → Nat} (h : IsPart L g) {a b : Nat} (ha : a < 256) (hb : b < 256) : keyL L a = keyL L b ↔ g a = g b := by
  have hd : ∀ k (hk : k < L.length), L.getD k sNone = L[k] := fun k hk => by rw [List.getD_eq_getElem?_getD, List.getElem?_eq_getElem hk]; rfl
  constructor
  · intro e
    have hl := h.lt ha
    have := congrArg (fun l => l[g a]?) e
    simp only [keyL, List.getElem?_map, List.getElem?_eq_getElem hl, Option.map_some, Option.some.injEq] at this
    rw [← hd _ hl, h.2.2 _ hl a ha, h.2.2 _ hl b hb, beq_self_eq_true] at this
    exact (beq_iff_eq.1 this.symm).symm
  · intro e
    unfold keyL
    apply List.map_congr_left
    intro m hm
    obtain ⟨k, hk, rfl⟩ := List.mem_iff_getElem.1 hm
    rw [← hd k hk, h.2.2 k hk a ha, h.2.2 k hk b hb, e]

theorem part_cl {L : List (Nat → Bool)} {g : Nat → Nat} (h : IsPart L g) {b : Nat} (hb : b < 256) : cl (keyL L) b = g b :=
  (cl_eq 256 h.1 fun _ _ ha hb => part_keys h ha hb).2.2 b hb

/-- The numbers of classes. -/
def clsG (g : Nat → Nat) : List Int := (List.range 256).map fun b => ((g b : Nat) : Int)

theorem clsL_clsG (K : Nat → List Bool) : clsL K = clsG (cl K) := rfl
theorem clsG_length (g : Nat → Nat) : (clsG g).length = 256 := by simp [clsG]
theorem clsG_congr {g h : Nat → Nat} (e : ∀ b, b < 256 → g b = h b) : clsG g = clsG h := by
  unfold clsG
  apply List.map_congr_left
  intro b hb
  rw [e b (by simpa using hb)]

theorem classR_part {L : List (Nat → Bool)} {g : Nat → Nat} (h : IsPart L g) : classR L = clsG g ∧ classE L = 0 := by
  have hc := class_of_part h
  unfold classR classE
  rw [hc, if_pos rfl, if_pos rfl]
  refine ⟨?_, rfl⟩
  unfold clsG
  apply List.map_congr_left
  intro b hb
  have hb' : b < 256 := by simpa using hb
  rw [clsA_fwd (fun i hi => h.2.2 i hi b hb') L.length (Nat.le_refl _), if_pos (h.lt hb')]

/-- What the reference gives is what Class gives. -/
theorem classR_right {L : List (Nat → Bool)} (h : rightL L = true) : classR L = clsL (keyL L) ∧ classE L = 0 := by
  obtain ⟨g, hg⟩ := part_of_right h
  obtain ⟨e1, e2⟩ := classR_part hg
  refine ⟨?_, e2⟩
  rw [e1, clsL_clsG]
  exact clsG_congr fun b hb => (part_cl hg hb).symm

/-! Sets of classes. -/

theorem clsG_getD (g : Nat → Nat) {b : Nat} (hb : b < 256) : (clsG g).getD b 0 = ((g b : Nat) : Int) := by
  unfold clsG
  rw [List.getD_eq_getElem?_getD, List.getElem?_map, List.getElem?_range hb]
  rfl

theorem gI_clsG (g : Nat → Nat) {b : Nat} (hb : b < 256) : gI (clsG g) b = g b := by
  unfold gI
  rw [clsG_getD g hb]
  omega

theorem okI_clsG {g : Nat → Nat} (h : Rgs g 256) : ∀ n, n ≤ 256 → okI (clsG g) n = true
  | 0, _ => rfl
  | n + 1, hn => by
    have hr := h n (by omega)
    refine okI_yes _ n (okI_clsG h n (by omega)) ?_ ?_
    · rw [clsG_getD g (by omega)]; omega
    · have e : nxN (gI (clsG g)) n = nxN g n := nxN_congr n fun b hb => gI_clsG g (show b < 256 by omega)
      rw [clsG_getD g (by omega), e]
      omega

theorem setsR_clsG {g : Nat → Nat} (h : Rgs g 256) : setsR (clsG g) 256 = partN g 256 ∧ setsE (clsG g) 256 = 0 := by
  have ho := okI_clsG h 256 (Nat.le_refl _)
  unfold setsR setsE
  rw [if_pos ⟨rfl, ho⟩, if_pos ⟨rfl, ho⟩]
  exact ⟨partN_congr 256 fun b hb => gI_clsG g hb, rfl⟩

end Go.Proofs.YtbjgkolldmplkaaDoor
