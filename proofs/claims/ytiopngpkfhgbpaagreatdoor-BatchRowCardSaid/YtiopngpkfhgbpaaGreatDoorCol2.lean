/- Numbers of a column: takeSigned, takeNumbers; behind, writeSigned, writeNumbers. -/
import Derived.Test.YtiopngpkfhgbpaaGreatDoorCol
namespace Go.Proofs.YtiopngpkfhgbpaaGreatDoor
set_option linter.unusedSimpArgs false
open Go.RowKit
set_option linter.unusedVariables false

/-- What a taker of cells answers. -/
def TOut (w w' : World) (r : Nat) (a : Option Addr) (l : List UInt8) (cap : Nat) (o : Res (List Cel)) (e : Ending) : Prop :=
  ROut (fun k => k = r) w w' r a l cap o (fun xs e => ∃ a' c', e = .returned (.slice a' xs.length c') ∧ SV rCel 2 (newb w w') w' a' c' xs) e

def pSigned (n : Nat) (d : List UInt8) : Res (List Cel) := pNext 0 n d
def wSigned (l : List Cel) : List UInt8 := wBehind 0 l
def pNumbers (n : Nat) (d : List UInt8) : Res (List Cel) := if n = 0 then .ok [] d else match pUint m64 d with
  | .ok z r => (pNext z (n - 1) r).pre [⟨z, []⟩]
  | .bad e r => .bad e r
def wNumbers : List Cel → List UInt8
  | [] => []
  | c :: l => uv c.num ++ wBehind c.num l
theorem pSigned_ok {n : Nat} {d r : List UInt8} {l : List Cel} : pSigned n d = .ok l r ↔ l.length = n ∧ Numbers l ∧ d = wSigned l ++ r := pNext_ok n 0 d r l (by omega)
theorem pNumbers_ok {n : Nat} {d r : List UInt8} {l : List Cel} : pNumbers n d = .ok l r ↔ l.length = n ∧ Numbers l ∧ d = wNumbers l ++ r := by
  unfold pNumbers
  by_cases hn : n = 0
  · subst hn
    rw [if_pos rfl]
    constructor
    · intro h; cases h; exact ⟨rfl, by simp [Numbers], rfl⟩
    · rintro ⟨h1, _, h3⟩
      obtain rfl := List.length_eq_zero_iff.1 h1
      subst h3; rfl
  · rw [if_neg hn]
    constructor
    · intro h
      split at h
      · rename_i z r' hz
        obtain ⟨h1, h2, h3⟩ := pUint_ok.1 hz
        obtain ⟨l', rfl, h4⟩ := Res.pre_ok.1 h
        obtain ⟨h5, h6, h7⟩ := (pNext_ok (n - 1) z r' r l' h1).1 h4
        refine ⟨by simp; omega, ?_, ?_⟩
        · intro c hc
          rcases List.mem_cons.1 hc with rfl | hc
          · exact ⟨h1, rfl⟩
          · exact h6 c hc
        · show d = uv z ++ wBehind z l' ++ r
          rw [List.append_assoc, ← h7]; exact h3
      · cases h
    · rintro ⟨h1, h2, h3⟩
      cases l with
      | nil => simp at h1; omega
      | cons c l =>
        obtain ⟨v, t⟩ := c
        obtain ⟨h4, h5⟩ := h2 ⟨v, t⟩ (by simp)
        simp only at h4 h5
        subst h5
        have hp : pUint m64 d = .ok v (wBehind v l ++ r) := pUint_ok.2 ⟨h4, by unfold m64; omega, by rw [h3]; simp [wNumbers]⟩
        rw [hp]
        exact Res.pre_ok.2 ⟨l, rfl, (pNext_ok (n - 1) v _ _ _ h4).2 ⟨by simp at h1; omega, fun c hc => h2 c (List.mem_cons_of_mem _ hc), rfl⟩⟩

theorem takeSigned_o (S : Nat → Prop) (w : World) (r : Nat) (hr : r < w.heap.size) (hSr : ¬ S r) (hS : ∀ k, S k → k < w.heap.size) (a : Option Addr) (cap : Nat) (l d : List UInt8) (hA : At w r a l cap d) (hb : BV S w a cap l) (hn : l.length ≤ 1099511627776) (n : Nat) (hnn : n ≤ 1024) :
    Calls Tryz.prog 81 #[.pointer (some ⟨r, 0, none⟩), .int .i64 n] w fun e w' => TOut w w' r a l cap (pSigned n d) e := by
  have hc := next_o nob w r hr id (nob_lt w) a cap l d hA (hb.mono (fun k hk => ⟨hS k hk, fun h => h.elim (fun h => hSr (h ▸ hk)) id⟩)) hn 0 n (by omega) hnn none 0 [] ⟨[], rfl, Vec.nil _ _ _, by simp⟩ (by simp)
  rw [Res.pre_nil] at hc
  unfold pSigned
  have hc : Calls Tryz.prog 102 #[.pointer (some ⟨r, 0, none⟩), .slice none 0 0, .int .u64 0, .int .i64 n] w fun e w' => TOut w w' r a l cap (pNext 0 n d) e := hc.mono (fun e w' h => by
    have hfr : Fr (fun k => k = r) w w' := h.1.mono (fun k _ h => h.elim id False.elim)
    refine ⟨hfr, ?_⟩
    have h2 := h.2
    cases ho : pNext 0 n d with
    | ok v d' =>
      rw [ho] at h2
      obtain ⟨⟨a', c', he, hv⟩, hA⟩ := h2
      exact ⟨⟨a', c', he, hv.mono rCel_ok (fun k hk => hk.elim False.elim id)⟩, hA⟩
    | bad c d' => rw [ho] at h2; exact h2)
  cases ho : pNext 0 n d with
  | ok v d' =>
    rw [ho] at hc
    clear hA hb
    go_enter Tryz.func81, Tryz.ntmps81
    go_wp2_with fail
    refine hc.mono ?_
    intro e w1 h
    have H := Lib.hid h
    obtain ⟨⟨a', c', rfl, hv⟩, hf, hA1⟩ := h.ok rfl
    clear h hv hf hA1
    go_wp2_with fail
    go_ret
    exact H.out
  | bad c d' =>
    rw [ho] at hc
    clear hA hb
    go_enter Tryz.func81, Tryz.ntmps81
    go_wp2_with fail
    refine hc.mono ?_
    intro e w1 h
    have H := Lib.hid h
    obtain ⟨rfl, hf, hA1⟩ := h.bad rfl
    clear h hf hA1
    go_wp2_with fail
    exact ⟨rfl, H.out⟩

set_option maxRecDepth 100000 in
set_option maxHeartbeats 8000000 in
theorem takeNumbers_o (S : Nat → Prop) (w : World) (r : Nat) (hr : r < w.heap.size) (hSr : ¬ S r) (hS : ∀ k, S k → k < w.heap.size) (a : Option Addr) (cap : Nat) (l d : List UInt8) (hA : At w r a l cap d) (hb : BV S w a cap l) (hn : l.length ≤ 1099511627776) (n : Nat) (hnn : n ≤ 1024) :
    Calls Tryz.prog 79 #[.pointer (some ⟨r, 0, none⟩), .int .i64 n] w fun e w' => TOut w w' r a l cap (pNumbers n d) e := by
  obtain ⟨E, hE⟩ : ∃ E, E = pNumbers n d := ⟨_, rfl⟩
  rw [← hE]
  unfold pNumbers at hE
  by_cases h0 : n = 0
  · subst h0
    rw [if_pos rfl] at hE
    subst hE
    have HA := Lib.hid hA
    clear hA hb
    go_enter Tryz.func79, Tryz.ntmps79
    go_wp2_with fail
    go_ret
    exact ⟨Fr.refl _ _, ⟨none, 0, rfl, [], rfl, Vec.nil _ _ _, by simp⟩, HA.out⟩
  · rw [if_neg h0] at hE
    have hd0 : ((n : Int) == 0) = false := by simp; omega
    have hc := rUint_o S w r a cap l d hA hb hn m64 (by unfold m64; omega)
    cases ho : pUint m64 d with
    | bad c d' =>
      rw [ho] at hE hc
      simp only at hE
      subst hE
      clear hA hb
      go_enter Tryz.func79, Tryz.ntmps79
      go_wp2_with fail
      refine hc.mono ?_
      intro e w1 h
      obtain ⟨rfl, hf, hA1, h1, h2⟩ := h.bad rfl
      have H := Lib.hid (⟨hf, hA1, h1, h2⟩ : _ ∧ _ ∧ _ ∧ _)
      clear h hf hA1 h1 h2
      go_wp2_with fail
      exact ⟨rfl, H.out.1, rfl, H.out.2.2.1, H.out.2.2.2, H.out.2.1⟩
    | ok z d1 =>
      rw [ho] at hE hc
      simp only at hE
      have hz := (pUint_ok.1 ho).1
      have HE := Lib.hid hE
      have HB := Lib.hid hb
      have HS := Lib.hid (⟨hS, hSr, hr⟩ : _ ∧ _ ∧ _)
      clear hA hb hE hS hSr hr
      go_enter Tryz.func79, Tryz.ntmps79
      go_wp2_with fail
      refine hc.mono ?_
      intro e w1 h
      obtain ⟨rfl, hf1, hA1⟩ := h.ok rfl
      have HF1 := Lib.hid hf1
      have HA1 := Lib.hid hA1
      clear h hf1 hA1
      obtain ⟨w3, hw3⟩ : ∃ x1, x1 = w1.alloc (.cells #[.int .u64 z, .string ⟨#[]⟩] 69 (0, 0)) := ⟨_, rfl⟩
      obtain ⟨z3, hz3⟩ : ∃ z3, z3 = w1.heap.size := ⟨_, rfl⟩
      have hf3 : Fr nob w1 w3 := by rw [hw3]; exact (Fr.refl nob _).alloc _
      have hlit := Vec.newrow w1 #[.int .u64 z, .string ⟨#[]⟩] 69 (size := 2) (n := 1) rfl (by unfold maxLen; omega) (by simp [Value.oneCell'])
      rw [← hw3, ← hz3] at hlit
      have hl1 : w3.heap.size = z3 + 1 := by rw [hw3, hz3]; simp
      have hs1 := HF1.out.size
      have hsv : SV rCel 2 (fun k => k = z3) w3 (some ⟨z3, 0, none⟩) 1 [⟨z, []⟩] := vec_cels (l := [⟨z, []⟩]) (hlit.mono (fun k hk => by have h1 := hk.1; have h2 := hk.2; omega)) (by intro c hc; rw [List.mem_singleton.1 hc]; exact ⟨hz, by simp⟩)
      have hSlt := HS.out.1
      have hnx := next_o (fun k => k = z3) w3 r (by have := HS.out.2.2; omega) (fun h => by have := HS.out.2.2; omega) (fun k hk => by omega) a cap l d1 (HA1.out.fr hf3 id)
        ((((HB.out.fr HF1.out (fun k hk h => HS.out.2.1 (h ▸ hk))).frN hf3)).mono (fun k hk => ⟨by have := hSlt k hk; omega, fun h => h.elim (fun h => HS.out.2.1 (h ▸ hk)) (fun h => by have := hSlt k hk; omega)⟩)) hn z (n - 1) hz (by omega) (some ⟨z3, 0, none⟩) 1 [⟨z, []⟩] hsv (by simp)
      rw [← HE.out, show (((n - 1 : Nat)) : Int) = (n : Int) - 1 by omega] at hnx
      have HNX := Lib.hid hnx
      have HF3 := Lib.hid hf3
      have HSZ := Lib.hid (⟨hz3, hl1, hs1⟩ : _ ∧ _ ∧ _)
      have HW3 := Lib.hid hw3
      have HZ3 := Lib.hid hz3
      clear hnx hf3 hw3 hlit hsv hz3 hl1 hs1 hSlt hc
      go_wp2_with fail
      rw [← HW3.out, ← HZ3.out]
      refine HNX.out.mono ?_
      intro e w4 h
      have hall : ∀ e', e = e' → TOut w w4 r a l cap E e' := by
        rintro e' rfl
        have hfr : Fr (fun k => k = r) w w4 := (HF1.out.trans (HF3.out.any (T := fun k => k = r)) (fun _ _ h => h)).trans h.1 (fun k hk h => h.elim id (fun h => by have h1 := HSZ.out.1; have h2 := HSZ.out.2.2; omega))
        refine ⟨hfr, ?_⟩
        have h2 := h.2
        cases E with
        | ok v d' =>
          obtain ⟨⟨a', c', he, hv⟩, hA⟩ := h2
          refine ⟨⟨a', c', he, hv.mono rCel_ok (fun k hk => ?_)⟩, hA⟩
          have h4 := h.1.size
          obtain ⟨h5, h6, h7⟩ := HSZ.out
          rcases hk with hk | hk
          · exact ⟨by omega, by omega⟩
          · have := hk.1; exact ⟨by omega, hk.2⟩
        | bad c d' => exact h2
      have HALL := Lib.hid hall
      cases E with
      | ok v d' =>
        obtain ⟨⟨a', c', rfl, hv⟩, hf, hA1⟩ := h.ok rfl
        clear h hv hf hA1 hall
        go_wp2_with fail
        go_ret
        exact HALL.out _ rfl
      | bad c d' =>
        obtain ⟨rfl, hf, hA1⟩ := h.bad rfl
        clear h hf hA1 hall
        go_wp2_with fail
        exact ⟨rfl, HALL.out _ rfl⟩
end Go.Proofs.YtiopngpkfhgbpaaGreatDoor
