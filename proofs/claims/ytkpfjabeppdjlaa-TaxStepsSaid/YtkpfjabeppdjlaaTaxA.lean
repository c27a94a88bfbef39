/- Contracts of the statements' own small functions: awake, right. -/
import Derived.Test.YtkpfjabeppdjlaaTax9
namespace Go.Proofs.Ytkpfjabeppdjlaa
open Go.RowKit

def bands1 : List (Int × Int) := [(0, 200000)]
theorem sl_one {w : World} {b : Nat} {t : TypeId} (h : w.heap[b]? = some (.cells #[.int .i64 0, .int .i64 200000] t (0, 0))) {B : Nat} (hB : b < B) : Sl encBand 2 w B (some ⟨b, 0, none⟩) bands1 := fun _ => by
  refine ⟨b, 0, rfl, hB, fun i x hx j u hu => ?_⟩
  have hi : i = 0 := by
    have := (List.getElem?_eq_some_iff.1 hx).1
    simp [bands1] at this
    omega
  subst hi
  have hxx : x = (0, 200000) := by simpa [bands1] using hx.symm
  subst hxx
  have hj : j < 2 := by
    have := (List.getElem?_eq_some_iff.1 hu).1
    simpa [encBand] using this
  have : j = 0 ∨ j = 1 := by omega
  rcases this with rfl | rfl
  · simp [World.cell?, h]; simpa [encBand] using hu
  · simp [World.cell?, h]; simpa [encBand] using hu
theorem aw1 : stepV 0 0 100000 1 12 120000 0 bands1 = ((100000, 18000), (18000, 0)) := by decide +kernel
theorem aw2 : stepV 100000 18000 0 2 12 120000 0 bands1 = ((100000, 16000), (-2000, 0)) := by decide +kernel

set_option maxRecDepth 100000 in
set_option maxHeartbeats 1000000 in
theorem law24_awake (w : World) : Calls Try.prog 8 #[] w fun e w' => e = .returned (.bool true) ∧ Below w.heap.size w w' := by
  go_enter Try.func8, Try.ntmps8
  go_wp2_with fail
  have h0 : ((w.alloc (.cells #[.int .i64 0, .int .i64 200000] 48)).alloc (.cells #[.int .i64 120000, .int .i64 0, .slice (some ⟨w.heap.size, 0, none⟩) 1 1] 28)).heap[w.heap.size]? = some (.cells #[.int .i64 0, .int .i64 200000] 48 (0, 0)) :=
    (Below.heap_alloc _ _ _ (by simp)).trans (World.alloc_heap_new w _)
  have s1 := tax_Step 0 0 100000 1 12 120000 0 (some ⟨w.heap.size, 0, none⟩) 1 bands1 _ (by simp [bands1]) (sl_one h0 (by simp; omega))
  rw [aw1] at s1
  refine s1.mono ?_
  rintro e w1 ⟨rfl, hb1⟩
  have z1 := hb1.size
  simp only [World.size_alloc] at z1
  have h1 : w1.heap[w.heap.size]? = some (.cells #[.int .i64 0, .int .i64 200000] 48 (0, 0)) := (hb1.block _ (by simp; omega)).trans h0
  have bel1 : Below w.heap.size w w1 := (((Below.refl _ w).alloc (Nat.le_refl _) _).alloc (by simp) _).trans (hb1.mono (by simp; omega))
  obtain ⟨hc1, hf1⟩ := bcell hb1
  have k1 : w.heap.size + 1 < w1.heap.size := by omega
  have k0 : w.heap.size < w1.heap.size := by omega
  have h2 : (w1.alloc (.cells #[.int .i64 100000, .int .i64 18000] 30)).heap[w.heap.size]? = some (.cells #[.int .i64 0, .int .i64 200000] 48 (0, 0)) := (Below.heap_alloc _ _ _ k0).trans h1
  have s2 := tax_Step 100000 18000 0 2 12 120000 0 (some ⟨w.heap.size, 0, none⟩) 1 bands1 _ (by simp [bands1]) (sl_one h2 (by simp; omega))
  rw [aw2] at s2
  have S2 := Lib.hid s2
  have H0 := Lib.hid h0
  have H1 := Lib.hid h1
  have H2 := Lib.hid h2
  clear s1 s2 h0 h1 h2
  go_wp2_with fail
  refine S2.out.mono ?_
  rintro e w2 ⟨rfl, hb2⟩
  have z2 := hb2.size
  simp only [World.size_alloc] at z2
  obtain ⟨hc2, hf2⟩ := bcell hb2
  have k2 : w1.heap.size < w2.heap.size := by omega
  go_wp2_with fail
  go_ret
  exact ⟨rfl, ((bel1.alloc (by omega) _).trans (hb2.mono (by simp; omega))).alloc (by omega) _⟩
end Go.Proofs.Ytkpfjabeppdjlaa
