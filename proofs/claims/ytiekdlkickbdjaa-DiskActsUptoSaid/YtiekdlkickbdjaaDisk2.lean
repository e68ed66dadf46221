/- The contract of Crash. -/
import Derived.Test.YtiekdlkickbdjaaDisk
import Derived.BigQuiet
import Derived.Deep.QuietTactic
namespace Go.Proofs.Ytiekdlkickbdjaa
open Go.RowKit

set_option maxRecDepth 100000 in
theorem disk_crash (S : Nat → Prop) (w : World) (d : Nat) (l : List UInt8) (safe crashes : Nat) (hd : DiskAt S w d l safe crashes)
    (S' : Nat → Prop) (a : Option Addr) (cap : Nat) (m : List UInt8) (h : BV S' w a cap m) (keep : Nat) (hk : keep + m.length ≤ l.length - safe) (hcr : crashes ≤ 1048576) :
    Calls Try.prog 14 #[.pointer (some ⟨d, 0, none⟩), .int .i64 keep, .slice a m.length cap] w fun e w' => e = .returned (.int .i64 0) ∧ Fr S w w' ∧
      DiskAt (grow S w w') w' d (l.take (safe + keep) ++ m) (safe + keep + m.length) (crashes + 1) := by
  obtain ⟨hSd, hSlt, hsafe, hlen, a0, cap0, hb, hv⟩ := hd
  have c0 := cell_of hb 0
  have c1 := cell_of hb 1
  have c2 := cell_of hb 2
  simp at c0 c1 c2
  obtain ⟨n, hcl⟩ : ∃ n, n = m.length := ⟨_, rfl⟩
  rw [← hcl] at hk ⊢
  have h : Vec S' w 1 a n cap (bv m) := hcl ▸ h
  have Hcl := Lib.hid hcl
  clear hcl
  obtain ⟨i, hi, hz, hsize, hby⟩ := info_parts info_u8
  have hvd : Vec (fun k => S k ∧ k ≠ d) w.drew 1 a0 l.length cap0 (bv l) := hv.vec.frN (Fr.refl nob w).drew
  have hle := hv.vec.le
  obtain ⟨a1, hs1, hv1, ha1, _⟩ := run_slice_vec (P := Try.prog) hvd 22 5 i Try.underlying22 hi hsize (some (.int .i64 (↑safe + ↑keep))) none none (safe + keep) l.length cap0 (bounds_l .i64 _ _ (by omega) (by omega)) (by omega) (by omega) (by omega) (by omega)
  obtain ⟨w2, hc, hf2, hv2⟩ := run_copy_vec (P := Try.prog) hvd 22 3 5 i Try.underlying22 hi hsize (safe + keep) n (l.length - (safe + keep)) (cap0 - (safe + keep)) a1 (by simpa using ha1) rfl (.slice a n cap) (bv m) ((h.frN (Fr.refl nob w).drew).src Try.underlying22) (by omega)
  obtain ⟨a2, hs2, hv3, ha2, hn2⟩ := run_slice_vec (P := Try.prog) hv2 22 5 i Try.underlying22 hi hsize none (some (.int .i64 (↑safe + ↑keep + ↑n))) (some (.int .i64 (↑safe + ↑keep + ↑n))) 0 (safe + keep + n) (safe + keep + n) (bounds_hm .i64 .i64 _ _ _ _ (by omega) (by omega) (by omega) (by omega)) (by omega) (by omega) (by omega) (by omega)
  simp only [Nat.sub_zero] at hs2 hv3
  have hb2 := hf2.heap (k := d) (o := .cells #[.slice a0 l.length cap0, .int .i64 safe, .int .i64 crashes] 62 (0, 0)) hb (by simp)
  have d0 := cell_of hb2 0
  have d1 := cell_of hb2 1
  have d2 := cell_of hb2 2
  have z0 := frozen_of hb2 0
  have z1 := frozen_of hb2 1
  have z2 := frozen_of hb2 2
  simp at d0 d1 d2
  have hlt : d < w2.heap.size := heap_lt hb2
  have hfd := (((Fr.self d w2).set1 0 (.slice a0 (safe + keep + n) (safe + keep + n))).set1 1 (.int .i64 (↑safe + ↑keep + ↑n))).set1 2 (.int .i64 (↑crashes + 1))
  unfold goInt at hc
  have Hhb := Lib.hid hb
  clear hb hi hz hsize hby hvd
  go_enter Try.func14, Try.ntmps14
  go_wp2
  go_region
  go_wp2
  go_ret
  have hl' : (l.take (safe + keep) ++ m).length = safe + keep + n := by have := Hcl.out; simp; omega
  refine ⟨rfl, ((Fr.refl S w).drew.trans hf2 (fun k _ hk => hk.1)).trans hfd (fun k _ hk => hk ▸ hSd), Or.inl hSd, ?_, by omega, by omega, a0, safe + keep + n, ?_, ?_⟩
  · rintro k (hk | hk)
    · have := hSlt k hk; have h1 := hf2.size; have h2 := hfd.size; simp at h1; omega
    · exact hk.2
  · have := heap_set (heap_set (heap_set hb2 0 (.slice a0 (safe + keep + n) (safe + keep + n))) 1 (.int .i64 (↑safe + ↑keep + ↑n))) 2 (.int .i64 (↑crashes + 1))
    simpa [hl', Nat.add_assoc, Int.add_assoc] using this
  · unfold BV
    rw [hl', bv_append, bv_take]
    exact (hv2.fr hfd (fun k hk => hk.2)).mono (fun k hk => ⟨Or.inl hk.1, hk.2⟩)
end Go.Proofs.Ytiekdlkickbdjaa
