/- Numbers of a column: written behind one another, and taken. -/
import Derived.Test.YtiopngpkfhgbpaaGreatDoorNums2
import Derived.Test.YtiopngpkfhgbpaaGreatDoorEvo
import Derived.WalkMore
namespace Go.Proofs.YtiopngpkfhgbpaaGreatDoor
set_option linter.unusedSimpArgs false
open Go.RowKit
set_option linter.unusedVariables false

/-- The step from one number to the next, and back. -/
def sub64 (x last : Nat) : Int := wrap64 ((x : Int) - last)
def add64 (last : Nat) (x : Int) : Nat := (((last : Int) + x) % 18446744073709551616).toNat
theorem add64_lt (last : Nat) (x : Int) : add64 last x < 18446744073709551616 := by unfold add64; omega
theorem sub64_I64 (x last : Nat) : I64 (sub64 x last) := by unfold sub64 I64 wrap64; omega
theorem add_sub64 {x last : Nat} (hx : x < 18446744073709551616) (hl : last < 18446744073709551616) : add64 last (sub64 x last) = x := by
  unfold add64 sub64 wrap64; omega
theorem sub_add64 {last : Nat} {x : Int} (hl : last < 18446744073709551616) (hx : I64 x) : sub64 (add64 last x) last = x := by
  obtain ⟨h1, h2⟩ := hx
  unfold add64 sub64 wrap64; omega

def pNext (last : Nat) : Nat → List UInt8 → Res (List Cel)
  | 0, d => .ok [] d
  | n + 1, d => match pInt d with
    | .ok x r => (pNext (add64 last x) n r).pre [⟨add64 last x, []⟩]
    | .bad e r => .bad e r
def wBehind (last : Nat) : List Cel → List UInt8
  | [] => []
  | c :: l => wInt (sub64 c.num last) ++ wBehind c.num l
/-- Cells that are numbers alone. -/
def Numbers (l : List Cel) : Prop := ∀ c ∈ l, c.num < 18446744073709551616 ∧ c.text = []
theorem pNext_ok : ∀ (n last : Nat) (d r : List UInt8) (l : List Cel), last < 18446744073709551616 → (pNext last n d = .ok l r ↔ l.length = n ∧ Numbers l ∧ d = wBehind last l ++ r)
  | 0, last, d, r, l, hl => by
    constructor
    · intro h; cases h; exact ⟨rfl, by simp [Numbers], rfl⟩
    · rintro ⟨h1, _, h3⟩
      obtain rfl := List.length_eq_zero_iff.1 h1
      subst h3; rfl
  | n + 1, last, d, r, l, hl => by
    unfold pNext
    constructor
    · intro h
      split at h
      · rename_i x r' hx
        obtain ⟨h1, h2⟩ := pInt_ok.1 hx
        obtain ⟨l', rfl, h3⟩ := Res.pre_ok.1 h
        obtain ⟨h4, h5, h6⟩ := (pNext_ok n _ _ _ _ (add64_lt last x)).1 h3
        refine ⟨by simp [h4], ?_, ?_⟩
        · intro c hc
          rcases List.mem_cons.1 hc with rfl | hc
          · exact ⟨add64_lt last x, rfl⟩
          · exact h5 c hc
        · show d = wInt (sub64 (add64 last x) last) ++ wBehind (add64 last x) l' ++ r
          rw [sub_add64 hl h1, List.append_assoc, ← h6]; exact h2
      · cases h
    · rintro ⟨h1, h2, h3⟩
      cases l with
      | nil => simp at h1
      | cons c l =>
        obtain ⟨v, t⟩ := c
        obtain ⟨h4, h5⟩ := h2 ⟨v, t⟩ (by simp)
        simp only at h4 h5
        subst h5
        have hp : pInt d = .ok (sub64 v last) (wBehind v l ++ r) := pInt_ok.2 ⟨sub64_I64 v last, by rw [h3]; simp [wBehind]⟩
        rw [hp]
        simp only [add_sub64 h4 hl]
        refine Res.pre_ok.2 ⟨l, rfl, (pNext_ok n v _ _ _ h4).2 ⟨by simpa using h1, fun c hc => h2 c (List.mem_cons_of_mem _ hc), rfl⟩⟩

def celCells (c : Cel) : List Value := [.int .u64 c.num, .string (bs c.text)]
def CelFit (c : Cel) : Prop := c.num < 18446744073709551616 ∧ c.text.length ≤ lim
theorem cels_vec {S : Nat → Prop} {w : World} {a : Option Addr} {cap : Nat} {l : List Cel} (h : SV rCel 2 S w a cap l) : Vec S w 2 a l.length cap (l.flatMap celCells) ∧ ∀ c ∈ l, CelFit c := by
  obtain ⟨css, h1, h2, h3⟩ := h
  have hc : css = l.map celCells := by
    apply List.ext_getElem?
    intro i
    by_cases hi : i < l.length
    · have := h3 i _ _ (List.getElem?_eq_getElem (h1 ▸ hi)) (List.getElem?_eq_getElem hi)
      rw [List.getElem?_map, List.getElem?_eq_getElem hi, List.getElem?_eq_getElem (h1 ▸ hi), this.2.2]; rfl
    · rw [List.getElem?_eq_none (by omega), List.getElem?_eq_none (by simp; omega)]
  refine ⟨by rw [List.flatMap_def, ← hc]; exact h2, fun c hc' => ?_⟩
  obtain ⟨i, hi, rfl⟩ := List.mem_iff_getElem.1 hc'
  have := h3 i _ _ (List.getElem?_eq_getElem (h1 ▸ hi)) (List.getElem?_eq_getElem hi)
  exact ⟨this.1, this.2.1⟩
theorem vec_cels {S : Nat → Prop} {w : World} {a : Option Addr} {cap : Nat} {l : List Cel} (h : Vec S w 2 a l.length cap (l.flatMap celCells)) (hl : ∀ c ∈ l, CelFit c) : SV rCel 2 S w a cap l := by
  refine ⟨l.map celCells, by simp, by rw [← List.flatMap_def]; exact h, fun i c x hc hx => ?_⟩
  rw [List.getElem?_map, hx] at hc
  cases hc
  obtain ⟨h1, h2⟩ := hl x (List.mem_of_getElem? hx)
  exact ⟨h1, h2, rfl⟩

set_option maxRecDepth 100000 in
set_option maxHeartbeats 8000000 in
theorem next_o (O : Nat → Prop) (w : World) (r : Nat) (hr : r < w.heap.size) (hOr : ¬ O r) (hO : ∀ k, O k → k < w.heap.size) (a : Option Addr) (cap : Nat) (l d : List UInt8) (hA : At w r a l cap d) (hb : BV (free w (fun k => k = r ∨ O k)) w a cap l) (hn : l.length ≤ 1099511627776)
    (last n : Nat) (hlast : last < 18446744073709551616) (hnn : n ≤ 1024) (ao : Option Addr) (co : Nat) (acc : List Cel) (hacc : SV rCel 2 O w ao co acc) (ha1 : acc.length ≤ 1) :
    Calls Tryz.prog 102 #[.pointer (some ⟨r, 0, none⟩), .slice ao acc.length co, .int .u64 last, .int .i64 n] w fun e w' =>
      ROut (fun k => k = r ∨ O k) w w' r a l cap ((pNext last n d).pre acc) (fun xs e => ∃ a' c', e = .returned (.slice a' xs.length c') ∧ SV rCel 2 (grow O w w') w' a' c' xs) e := by
  obtain ⟨E, hE⟩ : ∃ E, E = (pNext last n d).pre acc := ⟨_, rfl⟩
  rw [← hE]
  have HE := Lib.hid hE
  have hlt0 : ∀ k, (k = r ∨ O k) → k < w.heap.size := fun k hk => hk.elim (fun h => h ▸ hr) (hO k)
  have HB := Lib.hid (BV.keep hb)
  clear hb
  have HACC := Lib.hid hacc
  have HA := Lib.hid hA
  have HO := Lib.hid (⟨hOr, hO⟩ : _ ∧ _)
  clear hE hacc hA hO hOr
  go_enter Tryz.func102, Tryz.ntmps102
  go_wp2_with fail
  go_loopw [1, 2, 10] (fun v1 v2 v10 wr => ∃ (k : Nat) (O' : Nat → Prop) (o : List Cel) (a' : Option Addr) (c' la : Nat) (d' : List UInt8), v10 = .int .i64 k ∧ v2 = .int .u64 la ∧ v1 = .slice a' o.length c' ∧ k ≤ n ∧ o.length = acc.length + k ∧ la < 18446744073709551616 ∧ E = (pNext la (n - k) d').pre o ∧ SV rCel 2 O' wr a' c' o ∧ ¬ O' r ∧ (∀ j, O' j → O j ∨ w.heap.size ≤ j) ∧ At wr r a l cap d' ∧ Ev w (fun j => j = r ∨ O j) wr (fun j => j = r ∨ O' j)) (fun _ _ v10 _ => n - (intOf v10).toNat)
  case atStart => exact ⟨0, O, acc, ao, co, last, d, rfl, rfl, rfl, Nat.zero_le _, rfl, hlast, HE.out, HACC.out, HO.out.1, fun j hj => Or.inl hj, HA.out, Ev.refl hlt0⟩
  case round =>
    obtain ⟨k, O', o, a', c', la, d', rfl, rfl, rfl, hk, hol, hla, hEk, hv, hrO, hOO, hAt, hev⟩ := hrel
    have HEV := Lib.hid hev
    have HV := Lib.hid hv
    have HAT := Lib.hid hAt
    have HEK := Lib.hid hEk
    have HOO := Lib.hid (⟨hrO, hOO⟩ : _ ∧ _)
    have HOL := Lib.hid hol
    have hol2 : o.length ≤ 1025 := by omega
    clear hev hv hAt hEk hrO hOO hol
    by_cases hlt : k < n
    · have hEk := HEK.out
      rw [show n - k = (n - (k + 1)) + 1 by omega] at hEk
      unfold pNext at hEk
      have hc := rInt_o _ _ _ _ _ l d' HAT.out (HB.out _ _ HEV.out) hn
      cases ho : pInt d' with
      | ok x d1 =>
        rw [ho] at hEk hc
        simp only at hEk
        have hx := (pInt_ok.1 ho).1
        have HEK1 := Lib.hid hEk
        have hO0 := HOO.out.1
        clear hEk HEK
        have hc2 := hc.mono (R' := fun e w' => e = .returned (.int .i64 x) ∧ Fr (fun j => j = r) wr w' ∧ At w' r a l cap d1) (fun e w' h => by obtain ⟨rfl, h1, h2⟩ := h.ok rfl; exact ⟨rfl, h1, h2⟩)
        clear hc
        go_wp2_with fail
        refine (hc2).mono ?_
        rintro e u1 ⟨rfl, hfr, hAt1⟩
        have E1 := Lib.hid (Ev.turn (hfr.mono (fun k _ h => by subst h; exact Or.inl rfl)) HEV.out.lt)
        have T1 := Lib.hid hfr
        clear hfr
        have HAT1 := Lib.hid hAt1
        have HVx := Lib.hid (HV.out.fr rCel_ok T1.out (fun j hj he => hO0 (he ▸ hj)))
        clear hAt1 hc2
        obtain ⟨v, hvv⟩ : ∃ v, v = add64 la x := ⟨_, rfl⟩
        have hva : IntKind.u64.wrap ((la : Int) + IntKind.u64.wrap x) = (v : Int) := by
          rw [hvv, IntKind.wrap_u64, IntKind.wrap_u64]; unfold add64; omega
        have hv64 : v < 18446744073709551616 := by rw [hvv]; exact add64_lt la x
        rw [← hvv] at HEK1
        clear hvv
        obtain ⟨w3, hw3⟩ : ∃ x1, x1 = u1.alloc (.cells #[.int .u64 v, .string ⟨#[]⟩] 69 (0, 0)) := ⟨_, rfl⟩
        have hf3 : Fr nob u1 w3 := by rw [hw3]; exact (Fr.refl nob _).alloc _
        have hlit := Vec.newrow u1 #[.int .u64 v, .string ⟨#[]⟩] 69 (size := 2) (n := 1) rfl (by unfold maxLen; omega) (by simp [Value.oneCell'])
        have HSRC := Lib.hid (hlit.src (P := Tryz.prog) Tryz.underlying42)
        have HVV := Lib.hid ((cels_vec HVx.out).1.frN hf3)
        have HFIT := Lib.hid (cels_vec HVx.out).2
        rw [hw3] at HVV
        have HF3 := Lib.hid hf3
        have HW3 := Lib.hid hw3
        clear hlit hf3 hw3
        go_wp2_with (at_builtin; refine wpList_append_vec rfl _ _ _ _ rfl rfl HVV.out _ _ _ Tryz.underlying42 inf_Cell rfl _ 1 _ rfl HSRC.out (by unfold maxLen; omega) (by omega) ?_)
        intro a6 c6 w6 hv6 hf6 _
        rw [← HW3.out] at hv6 hf6
        have HV6 := Lib.hid hv6
        have HF6 := Lib.hid hf6
        clear hv6 hf6
        have E2 := Lib.hid (Ev.of HF3.out E1.out.lt)
        have G2 := Lib.hid HF3.out
        go_wp2_with fail
        go_roundw
        case rel =>
          have e6 : Ev w3 (fun j => j = r ∨ O' j) w6 (fun j => j = r ∨ grow O' w3 w6 j) := by
            have hg := Ev.grow (HF6.out.mono (T := fun j => j = r ∨ O' j) (fun k _ h => Or.inr h)) E2.out.lt
            exact hg.drop (fun j hj => hj.elim (fun h => Or.inl (Or.inl h)) (fun h => h.elim (fun h => Or.inl (Or.inr h)) Or.inr))
          refine ⟨k + 1, _, o ++ [⟨v, []⟩], a6, c6, v, d1, by go_num, rfl, by simp, by omega, by have := HOL.out; simp; omega, hv64, ?_, vec_cels ?_ ?_, ?_, ?_, ?_, ((HEV.out.trans (E1.out.trans E2.out))).trans e6⟩
          · rw [HEK1.out, Res.pre_pre]
          · rw [List.length_append, List.flatMap_append]; exact HV6.out
          · intro c hc
            rcases List.mem_append.1 hc with hc | hc
            · exact HFIT.out c hc
            · rw [List.mem_singleton.1 hc]; exact ⟨hv64, by simp⟩
          · intro h
            rcases h with h | h
            · exact HOO.out.1 h
            · have := ((HEV.out.trans (E1.out.trans E2.out))).fr.size; have := h.1; omega
          · intro j hj
            rcases hj with hj | hj
            · exact HOO.out.2 j hj
            · have := ((HEV.out.trans (E1.out.trans E2.out))).fr.size; have := hj.1; exact Or.inr (by omega)
          · exact (HAT1.out.fr HF3.out id).fr HF6.out HOO.out.1
        case measure => simp [intOf]; omega
      | bad c d1 =>
        rw [ho] at hEk hc
        simp only at hEk
        have HEK1 := Lib.hid hEk
        clear hEk HEK
        have hc2 := hc.mono (R' := fun e w' => e = .panicked (broken r c) ∧ Fr (fun j => j = r) wr w' ∧ At w' r a l cap d1 ∧ c ≠ 0 ∧ c < 256) (fun e w' h => by obtain ⟨rfl, h1, h2⟩ := h.bad rfl; exact ⟨rfl, h1, h2⟩)
        clear hc
        go_wp2_with fail
        refine (hc2).mono ?_
        rintro e u3 ⟨rfl, hfr, hAt1, hc0, hc6⟩
        have E3 := Lib.hid (Ev.turn (hfr.mono (fun k _ h => by subst h; exact Or.inl rfl)) HEV.out.lt)
        have T3 := Lib.hid hfr
        clear hfr
        have HAT1 := Lib.hid (⟨hc0, hc6, hAt1⟩ : _ ∧ _ ∧ _)
        clear hAt1 hc0 hc6 hc2
        go_wp2_with fail
        refine ⟨rfl, ((HEV.out.trans E3.out)).fr, ?_⟩
        rw [HEK1.out]
        exact ⟨rfl, HAT1.out⟩
    · obtain rfl : k = n := by omega
      have hEk := HEK.out
      rw [Nat.sub_self] at hEk
      unfold pNext at hEk
      simp only [Res.pre, List.append_nil] at hEk
      have HEK1 := Lib.hid hEk
      clear hEk
      go_wp2_with fail
      go_ret
      refine ⟨(HEV.out).fr, ?_⟩
      rw [HEK1.out]
      refine ⟨⟨a', c', rfl, HV.out.mono rCel_ok (fun j hj => ?_)⟩, HAT.out⟩
      rcases HOO.out.2 j hj with h | h
      · exact Or.inl h
      · exact Or.inr ⟨h, (HEV.out).lt j (Or.inr hj)⟩
end Go.Proofs.YtiopngpkfhgbpaaGreatDoor
