/- An entry that comes twice. No program in sight. -/
import Derived.Test.YtpdhflbgbkcdfaaGreatDoorRunP
namespace Go.Proofs.YtpdhflbgbkcdfaaGreatDoor
set_option linter.unusedSimpArgs false
open Go.RowKit
set_option linter.unusedVariables false

theorem takeF_more {s : List Col} {q : Int} {l : List Pr} {m : Nat} {x : Ent} (h : (takeF s ⟨q, l, m⟩ x).1 = 0) (hm : m + 1 < 4096) : takeF s ⟨q, l, m + 1⟩ x = (0, ⟨(takeF s ⟨q, l, m⟩ x).2.q, (takeF s ⟨q, l, m⟩ x).2.l, (takeF s ⟨q, l, m⟩ x).2.m + 1⟩) := by
  have hn : ¬ 4096 ≤ m := by omega
  have hn' : ¬ 4096 ≤ m + 1 := by omega
  by_cases h1 : (applyF s q l x).2.2 = 0
  · simp [takeF, hn, hn', h1]
  · simp [takeF, hn, h1] at h
theorem encGo_more {s : List Col} : ∀ {r : List Ent} {q : Int} {l : List Pr} {m : Nat} {b b' : List UInt8} {n n' : Nat}, (encGo s ⟨q, l, m⟩ b n r).1 = 0 → m + r.length + 1 < 4096 → (encGo s ⟨q, l, m + 1⟩ b' n' r).1 = 0
  | [], _, _, _, _, _, _, _, _, _ => rfl
  | x :: r, q, l, m, b, b', n, n', h, hm => by
    simp only [encGo] at h ⊢
    by_cases h1 : (takeF s ⟨q, l, m⟩ x).1 = 0
    · rw [if_pos h1] at h
      have h2 := takeF_more h1 (by simp at hm; omega)
      rw [h2]
      simp only [if_true]
      by_cases h3 : entryErr s x.kind x.seq x.prs = 0
      · rw [if_pos h3] at h ⊢
        obtain ⟨c, hc⟩ : ∃ c, c = (takeF s ⟨q, l, m⟩ x).2 := ⟨_, rfl⟩
        have hcm : c.m = m + 1 := by
          rw [hc]
          unfold takeF at h1 ⊢
          simp only at h1 ⊢
          split
          · rename_i h4; rw [if_pos h4] at h1; simp at h1
          · rename_i h4
            rw [if_neg h4] at h1
            split
            · rfl
            · rename_i h5; rw [if_neg h5] at h1; exact absurd h1 h5
        rw [← hc] at h ⊢
        obtain ⟨cq, cl, cm⟩ := c
        simp only at hcm h ⊢
        subst hcm
        exact encGo_more h (by simp at hm; omega)
      · rw [if_neg h3] at h; exact absurd h h3
    · rw [if_neg h1] at h; exact absurd h h1
theorem take_twice {s : List Col} {t : TSt} {x : Ent} (hok : TOk s t) (hp : PrOk x.prs) (h : (takeF s t x).1 = 0) (hs : schemaCheck s = 0) (hm : t.m + 1 < 4096) :
    x.kind = 1 ∧ takeF s (takeF s t x).2 x = (0, ⟨(takeF s t x).2.q, (takeF s t x).2.l, (takeF s t x).2.m + 1⟩) ∨ x.kind = 0 ∧ (takeF s (takeF s t x).2 x).1 = 14 := by
  obtain ⟨h1, hc, hmm, hk⟩ := takeF_zero hok hp h
  have hok' := takeF_ok hok hp
  rw [h] at *
  obtain ⟨t', ht'⟩ : ∃ t', t' = (takeF s t x).2 := ⟨_, rfl⟩
  rw [← ht'] at hmm hk hok' ⊢
  rcases hk with ⟨k1, k2, k3, k4, k5⟩ | ⟨k1, k2, k3, k4⟩
  · refine Or.inl ⟨k1, ?_⟩
    have hx : x = ⟨1, t'.q, t'.l⟩ := by
      obtain ⟨xk, xq, xp⟩ := x
      simp only at k1 k2 k3
      subst k1 k2 k3
      rw [k4, k5]
    have := take_snap hs hok' (by omega)
    rw [← hx] at this
    exact this
  · refine Or.inr ⟨k1, ?_⟩
    have hz := of_canon hs hok'.can hok'.len
    have ha : Applied s t'.q t'.l x.kind x.seq x.prs 0 [] 14 := by
      unfold Applied
      rw [if_neg (by omega), if_neg (by have := hok'.q; omega), if_neg (by omega), if_neg (by omega), if_pos (by omega)]
      exact ⟨rfl, rfl, rfl⟩
    have hF := applyF_of ha
    unfold takeF
    rw [if_neg (by omega), hF, if_neg (by decide)]
/-- An entry behind itself: a snapshot may be, a change has a wrong number. -/
theorem swap_law {s : List Col} {l : List Ent} (hp : ∀ x ∈ l, PrOk x.prs) (he : (encF s l).1 = 0) (hl : l.length ≤ 30) {i : Nat} (hi : i < l.length) :
    (l[i].kind = 1 ∧ (encF s (l.take (i + 1) ++ [l[i]] ++ l.drop (i + 1))).1 = 0 ∧ (encF s (l.take (i + 1) ++ [l[i]] ++ l.drop (i + 1))).2.1 = l.length + 1) ∨
    (l[i].kind ≠ 1 ∧ (encF s (l.take (i + 1) ++ [l[i]] ++ l.drop (i + 1))).1 = 14 ∧ (encF s (l.take (i + 1) ++ [l[i]] ++ l.drop (i + 1))).2.1 = i + 1 ∧ (encF s (l.take (i + 1) ++ [l[i]] ++ l.drop (i + 1))).2.2.1 = []) := by
  obtain ⟨hs, e⟩ := encF_zero he
  have h1 := (encF_take he i).1
  have h2 := (encF_take he (i + 1)).1
  have e1 := (encF_zero h1).2
  have e2 := (encF_zero h2).2
  have hn1 := encF_n h1
  have hn2 := encF_n h2
  rw [e1] at h1 hn1
  rw [e2] at h2 hn2
  rw [e] at he
  have hu : ∀ r, encF s (l.take (i + 1) ++ r) = encGo s .zero (headBytes s) 0 (l.take (i + 1) ++ r) := fun r => by unfold encF; rw [if_pos hs]
  rw [List.append_assoc, hu]
  have hpt : ∀ k, ∀ x ∈ l.take k, PrOk x.prs := fun k x hx => hp x (List.mem_of_mem_take hx)
  -- ahead of the entry
  obtain ⟨N1, b1, t1, hT1⟩ : ∃ N b t, encGo s .zero (headBytes s) 0 (l.take i) = (0, N, b, t) := ⟨_, _, _, Prod.ext h1 rfl⟩
  have hr1 := encGo_run s (l.take i) .zero (headBytes s) 0 h1
  rw [hT1] at hr1 hn1
  simp only at hr1 hn1
  obtain ⟨hok, hm, _, _, _⟩ := run_law (hpt i) (TOk.zero s) hr1
  have hm' : t1.m = i := by rw [hm]; show 0 + _ = _; rw [List.length_take]; omega
  have hx := hp l[i] (List.getElem_mem hi)
  -- behind it
  have ht : l.take (i + 1) = l.take i ++ [l[i]] := List.take_succ_eq_append_getElem hi
  have hstep : encGo s .zero (headBytes s) 0 (l.take (i + 1)) = encGo s t1 b1 N1 [l[i]] := by rw [ht, encGo_append, hT1]; rfl
  rw [hstep] at h2 hn2
  simp only [encGo] at h2 hn2
  have ht0 : (takeF s t1 l[i]).1 = 0 := by
    by_cases h : (takeF s t1 l[i]).1 = 0
    · exact h
    · rw [if_neg h] at h2; exact absurd h2 h
  have hee : entryErr s l[i].kind l[i].seq l[i].prs = 0 := by
    rw [if_pos ht0] at h2
    by_cases h : entryErr s l[i].kind l[i].seq l[i].prs = 0
    · exact h
    · rw [if_neg h] at h2; exact absurd h2 h
  rw [if_pos ht0, if_pos hee] at hn2
  simp only at hn2
  have hT2 : encGo s .zero (headBytes s) 0 (l.take (i + 1)) = (0, N1 + 1, b1 ++ entryBy s l[i].kind l[i].seq l[i].prs, (takeF s t1 l[i]).2) := by
    rw [hstep]
    simp only [encGo]
    rw [if_pos ht0, if_pos hee]
  have hlt : (l.take (i + 1)).length = i + 1 := by rw [List.length_take]; omega
  rw [hlt] at hn2
  rw [encGo_append, hT2]
  simp only [if_true, List.singleton_append, encGo]
  have htw := take_twice hok hx ht0 hs (by omega)
  have hmm := (takeF_zero hok hx ht0).2.2.1
  have hrest : (encGo s (takeF s t1 l[i]).2 (b1 ++ entryBy s l[i].kind l[i].seq l[i].prs) (N1 + 1) (l.drop (i + 1))).1 = 0 := by
    have ha := encGo_append s (l.drop (i + 1)) (l.take (i + 1)) .zero (headBytes s) 0
    rw [List.take_append_drop, hT2] at ha
    simp only [if_true] at ha
    rw [← ha]; exact he
  rcases htw with ⟨k1, k2⟩ | ⟨k1, k2⟩
  · refine Or.inl ⟨k1, ?_⟩
    rw [k2]
    simp only [if_true, hee]
    obtain ⟨c, hc⟩ : ∃ c, c = (takeF s t1 l[i]).2 := ⟨_, rfl⟩
    rw [← hc] at hrest hmm ⊢
    obtain ⟨cq, cl, cm⟩ := c
    simp only at hmm ⊢
    have hz := encGo_more (b' := b1 ++ entryBy s l[i].kind l[i].seq l[i].prs ++ entryBy s l[i].kind l[i].seq l[i].prs) (n' := N1 + 1 + 1) hrest (by rw [List.length_drop]; omega)
    refine ⟨hz, ?_⟩
    have := (encGo_n s _ _ _ _).2.2 hz
    rw [this, List.length_drop]
    omega
  · refine Or.inr ⟨by omega, ?_⟩
    rw [if_neg (by rw [k2]; decide)]
    exact ⟨k2, by simp only; omega, rfl⟩
end Go.Proofs.YtpdhflbgbkcdfaaGreatDoor
