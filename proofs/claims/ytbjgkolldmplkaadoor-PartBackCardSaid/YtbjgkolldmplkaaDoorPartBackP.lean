/- Plain laws of PartBack and PartMore: each set is some of the parts together; with more sets each part is within one that there was. -/
import Derived.Test.YtbjgkolldmplkaaDoorPartSameP
import Derived.Test.YtbjgkolldmplkaaDoorOver
namespace Go.Proofs.YtbjgkolldmplkaaDoor

/-- The sets of these numbers together. -/
def uniL (P : List (Nat → Bool)) (l : List Int) : Nat → Bool := fun b => l.any fun i => P.getD i.toNat sNone b

theorem uniL_nil (P : List (Nat → Bool)) : uniL P [] = sNone := rfl
theorem uniL_snoc (P : List (Nat → Bool)) (l : List Int) (i : Int) : uniL P (l ++ [i]) = sAny (uniL P l) (P.getD i.toNat sNone) := by
  funext b
  simp [uniL, sAny]

theorem subB_iff (q m : Nat → Bool) : subB q m = true ↔ ∀ b, b < 256 → q b = true → m b = true := by
  unfold subB
  rw [List.all_eq_true]
  constructor
  · intro h b hb hq
    have := h b (List.mem_range.2 hb)
    rw [hq] at this
    simpa using this
  · intro h b hb
    have := h b (List.mem_range.1 hb)
    cases hq : q b
    · rfl
    · rw [this hq]; rfl

theorem disB_iff (q m : Nat → Bool) : disB q m = true ↔ ∀ b, b < 256 → q b = true → m b = false := by
  unfold disB
  rw [List.all_eq_true]
  constructor
  · intro h b hb hq
    have := h b (List.mem_range.2 hb)
    rw [hq] at this
    simpa using this
  · intro h b hb
    have := h b (List.mem_range.1 hb)
    cases hq : q b
    · rfl
    · rw [this hq]; rfl

theorem overOk_all {L : List (Nat → Bool)} {m : Nat → Bool} : ∀ n, (∀ k, k < n → subB (L.getD k sNone) m = true ∨ disB (L.getD k sNone) m = true) → overOk L m n = true
  | 0, _ => rfl
  | n + 1, h => overOk_yes n (overOk_all n fun k hk => h k (by omega)) (h n (by omega))

theorem overL_mem {L : List (Nat → Bool)} {m : Nat → Bool} (i : Int) : ∀ n, i ∈ overL L m n ↔ ∃ k : Nat, k < n ∧ i = (k : Int) ∧ subB (L.getD k sNone) m = true
  | 0 => by simp [overL]
  | n + 1 => by
    have ih := overL_mem (L := L) (m := m) i n
    rw [overL]
    cases hs : subB (L.getD n sNone) m
    · simp only [Bool.false_eq_true, if_false]
      rw [ih]
      constructor
      · rintro ⟨k, h1, h2, h3⟩
        exact ⟨k, by omega, h2, h3⟩
      · rintro ⟨k, h1, h2, h3⟩
        have : k ≠ n := fun e => by subst e; rw [hs] at h3; cases h3
        exact ⟨k, by omega, h2, h3⟩
    · simp only [if_true, List.mem_append, List.mem_singleton]
      rw [ih]
      constructor
      · rintro (⟨k, h1, h2, h3⟩ | h)
        · exact ⟨k, by omega, h2, h3⟩
        · exact ⟨n, by omega, h, hs⟩
      · rintro ⟨k, h1, h2, h3⟩
        by_cases e : k = n
        · subst e; exact .inr h2
        · exact .inl ⟨k, by omega, h2, h3⟩

theorem partN_getD (g : Nat → Nat) {k b : Nat} (hk : k < nxN g 256) (hb : b < 256) : (partN g 256).getD k sNone b = (g b == k) := by
  rw [List.getD_eq_getElem?_getD, partN_get g 256 k hk, Option.getD_some]
  simp [hb]

/-- A set of the row is within or without each part. -/
theorem part_over (L : List (Nat → Bool)) (m : Nat → Bool) (hm : m ∈ L) :
    overOk (partN (cl (keyL L)) 256) m (partN (cl (keyL L)) 256).length = true := by
  refine overOk_all _ fun k hk => ?_
  rw [partN_length] at hk
  by_cases h : ∃ b, b < 256 ∧ cl (keyL L) b = k ∧ m b = true
  · obtain ⟨b, hb, hc, hmb⟩ := h
    left
    rw [subB_iff]
    intro a ha hq
    rw [partN_getD _ hk ha] at hq
    have e : cl (keyL L) a = cl (keyL L) b := by rw [hc]; simpa using hq
    rw [cl_same, keyL_iff] at e
    rw [e m hm, hmb]
  · right
    rw [disB_iff]
    intro a ha hq
    rw [partN_getD _ hk ha] at hq
    cases hma : m a
    · rfl
    · exact absurd ⟨a, ha, by simpa using hq, hma⟩ h

/-- Its parts together are the set. -/
theorem part_union (L : List (Nat → Bool)) (m : Nat → Bool) (hm : m ∈ L) :
    eqB (uniL (partN (cl (keyL L)) 256) (overL (partN (cl (keyL L)) 256) m (partN (cl (keyL L)) 256).length)) m = true := by
  rw [eqB_iff]
  intro b hb
  rw [Bool.eq_iff_iff, partN_length]
  unfold uniL
  rw [List.any_eq_true]
  constructor
  · rintro ⟨i, hi, hq⟩
    obtain ⟨k, hk, rfl, hs⟩ := (overL_mem i _).1 hi
    rw [Int.toNat_natCast] at hq
    exact (subB_iff _ _).1 hs b hb hq
  · intro hmb
    have hk : cl (keyL L) b < nxN (cl (keyL L)) 256 := nxN_gt _ hb
    refine ⟨((cl (keyL L) b : Nat) : Int), (overL_mem _ _).2 ⟨_, hk, rfl, ?_⟩, ?_⟩
    · rw [subB_iff]
      intro a ha hq
      rw [partN_getD _ hk ha] at hq
      have e : cl (keyL L) a = cl (keyL L) b := by simpa using hq
      rw [cl_same, keyL_iff] at e
      rw [e m hm, hmb]
    · rw [Int.toNat_natCast, partN_getD _ hk hb]
      simp

theorem overL_lt {L : List (Nat → Bool)} {m : Nat → Bool} {n k : Nat} (h : k < (overL L m n).length) : 0 ≤ (overL L m n).getD k 0 ∧ (overL L m n).getD k 0 < (n : Int) := by
  have hm : (overL L m n).getD k 0 ∈ overL L m n := by
    rw [List.getD_eq_getElem?_getD, List.getElem?_eq_getElem h, Option.getD_some]
    exact List.getElem_mem h
  obtain ⟨j, hj, he, _⟩ := (overL_mem _ _).1 hm
  omega

/-- A part of the finer partition is within just one part of the other. -/
theorem part_in {K K' : Nat → List Bool} (h : ∀ a b, a < 256 → b < 256 → K' a = K' b → K a = K b) (i : Nat) (hi : i < nxN (cl K') 256) :
    ∃ j, j < nxN (cl K) 256 ∧ ∀ k, k < nxN (cl K) 256 → eqB (sBoth ((partN (cl K) 256).getD k sNone) ((partN (cl K') 256).getD i sNone)) ((partN (cl K') 256).getD i sNone) = decide (k = j) ∧
      eqB (sBoth ((partN (cl K) 256).getD k sNone) ((partN (cl K') 256).getD i sNone)) sNone = !decide (k = j) := by
  obtain ⟨b, hb, hc, _⟩ := (cl_rgs K' 256).first i hi
  refine ⟨cl K b, nxN_gt _ hb, fun k hk => ?_⟩
  have hq : ∀ a, a < 256 → (partN (cl K') 256).getD i sNone a = (cl K' a == i) := fun a ha => partN_getD _ hi ha
  have hp : ∀ a, a < 256 → (partN (cl K) 256).getD k sNone a = (cl K a == k) := fun a ha => partN_getD _ hk ha
  have hin : ∀ a, a < 256 → cl K' a = i → cl K a = cl K b := fun a ha e => (cl_same K a b).2 (h a b ha hb ((cl_same K' a b).1 (by rw [e, hc])))
  by_cases hkj : k = cl K b
  · have h1 : eqB (sBoth ((partN (cl K) 256).getD k sNone) ((partN (cl K') 256).getD i sNone)) ((partN (cl K') 256).getD i sNone) = true := by
      rw [eqB_iff]
      intro a ha
      unfold sBoth
      rw [hq a ha, hp a ha]
      cases e : (cl K' a == i)
      · rw [Bool.and_false]
      · rw [hin a ha (by simpa using e), hkj]; simp
    have h2 : eqB (sBoth ((partN (cl K) 256).getD k sNone) ((partN (cl K') 256).getD i sNone)) sNone = false := by
      rw [Bool.eq_false_iff, Ne, eqB_iff]
      intro hall
      have := hall b hb
      unfold sBoth at this
      rw [hq b hb, hp b hb, hc, hkj] at this
      simp [sNone] at this
    rw [h1, h2]
    simp [hkj]
  · have h1 : eqB (sBoth ((partN (cl K) 256).getD k sNone) ((partN (cl K') 256).getD i sNone)) ((partN (cl K') 256).getD i sNone) = false := by
      rw [Bool.eq_false_iff, Ne, eqB_iff]
      intro hall
      have := hall b hb
      unfold sBoth at this
      rw [hq b hb, hp b hb, hc] at this
      have hne : (cl K b == k) = false := by rw [beq_eq_false_iff_ne]; exact fun e => hkj e.symm
      rw [hne] at this
      simp at this
    have h2 : eqB (sBoth ((partN (cl K) 256).getD k sNone) ((partN (cl K') 256).getD i sNone)) sNone = true := by
      rw [eqB_iff]
      intro a ha
      unfold sBoth
      rw [hq a ha, hp a ha]
      cases e : (cl K' a == i)
      · rw [Bool.and_false]; rfl
      · have hne : (cl K a == k) = false := by rw [beq_eq_false_iff_ne, hin a ha (by simpa using e)]; exact fun e => hkj e.symm
        rw [hne]; rfl
    rw [h1, h2]
    simp [hkj]

theorem firsts_any (K : Nat → List Bool) (n b : Nat) (hb : b < n) : (firsts K n).any (fun a => K a == K b) = true := by
  obtain ⟨h, e⟩ := (cl_iff K n).2 b hb
  exact List.any_eq_true.2 ⟨_, List.getElem_mem h, by simpa using e⟩

theorem firsts_mono {K K' : Nat → List Bool} (h : ∀ a b, a < 256 → b < 256 → K' a = K' b → K a = K b) : ∀ n, n ≤ 256 → (firsts K n).length ≤ (firsts K' n).length
  | 0, _ => Nat.le_refl _
  | n + 1, hn => by
    have ih := firsts_mono h n (by omega)
    rw [firsts, firsts]
    cases h1 : (firsts K n).any (fun a => K a == K n)
    · have h2 : (firsts K' n).any (fun a => K' a == K' n) = false := by
        rw [Bool.eq_false_iff]
        intro ht
        obtain ⟨a, ha, he⟩ := List.any_eq_true.1 ht
        have han := firsts_lt K' n a ha
        have hk := h a n (by omega) (by omega) (by simpa using he)
        have := firsts_any K n a han
        rw [hk] at this
        rw [this] at h1
        cases h1
      rw [h2]
      simp only [Bool.false_eq_true, if_false, List.length_append, List.length_cons, List.length_nil]
      omega
    · simp only [if_true]
      split
      · exact ih
      · rw [List.length_append]; simp; omega

theorem parts_more {K K' : Nat → List Bool} (h : ∀ a b, a < 256 → b < 256 → K' a = K' b → K a = K b) : (partN (cl K) 256).length ≤ (partN (cl K') 256).length := by
  rw [partN_length, partN_length, ← firsts_length, ← firsts_length]
  exact firsts_mono h 256 (Nat.le_refl _)

theorem keyL_more (L M : List (Nat → Bool)) (a b : Nat) (h : keyL (L ++ M) a = keyL (L ++ M) b) : keyL L a = keyL L b := by
  rw [keyL_iff] at h ⊢
  exact fun m hm => h m (List.mem_append.2 (.inl hm))

/-- The partition of a partition is itself. -/
theorem parts_own (g : Nat → Nat) (h : Rgs g 256) : partN (cl (keyL (partN g 256))) 256 = partN g 256 := partN_congr 256 fun _ hb => part_cl (part_isPart h) hb

/-- Numbers that Sets takes are the classes of what it gives. -/
theorem clsG_gI (C : List Int) (hl : C.length = 256) (h : okI C 256 = true) : clsG (gI C) = C := by
  apply List.ext_getElem?
  intro b
  by_cases hb : b < 256
  · have h3 := okI_pos C 256 h b hb
    unfold clsG
    rw [List.getElem?_map, List.getElem?_range hb, Option.map_some, List.getElem?_eq_getElem (show b < C.length by omega), Option.some.injEq]
    have e2 : C[b]'(by omega) = C.getD b 0 := by rw [List.getD_eq_getElem?_getD, List.getElem?_eq_getElem (by omega), Option.getD_some]
    rw [e2]
    unfold gI
    omega
  · rw [List.getElem?_eq_none (by rw [clsG_length]; omega), List.getElem?_eq_none (by omega)]

end Go.Proofs.YtbjgkolldmplkaaDoor
