import Derived.Test.YtdkbbngedjiheaaGreatDoorThos
/- Rows of one's own, of whatever elements: as slices, over a lower base, behind calls. -/
namespace Go.Proofs.YtdkbbngedjiheaaGreatDoor
open Go.RowKit Go.Sort

section
variable {α : Type} {enc : α → List Value} {k : Nat} {e : TypeId} {B : Nat} {v : Value} {l : List α} {w w' w0 : World}
theorem own_sl (hk : ∀ x, (enc x).length = k) (h : Own enc k e B v l w) : ∃ A cap, v = .slice A l.length cap ∧ l.length ≤ cap ∧ Sl enc k w w.heap.size A l := by
  by_cases h0 : l = []
  · subst h0
    rcases h.2 with ⟨rfl, _⟩ | ⟨g, cap, cur, rfl, hb, hg, hn0, hcm, hcs, ht⟩
    · exact ⟨none, 0, rfl, Nat.le_refl _, fun hl => absurd rfl hl⟩
    · exact ⟨some ⟨g, 0, none⟩, cap, rfl, Nat.zero_le _, fun hl => absurd rfl hl⟩
  · obtain ⟨g, cap, rfl, hb, hr⟩ := h.row hk h0
    exact ⟨some ⟨g, 0, none⟩, cap, rfl, hr.le, fun _ => ⟨g, 0, rfl, hr.lt, fun i x hx j u hu => by rw [Nat.zero_add]; exact hr.cell hx hu⟩⟩
theorem own_down {B' : Nat} (h : Own enc k e B v l w) (hB : B' ≤ B) : Own enc k e B' v l w := by
  rcases h with ⟨h1, h2⟩
  refine ⟨h1, ?_⟩
  rcases h2 with h0 | ⟨g, cap, cur, hv, hb, hr⟩
  · exact .inl h0
  · exact .inr ⟨g, cap, cur, hv, Nat.le_trans hB hb, hr⟩
theorem own_bel (ho : Own enc k e B v l w) (hb : Below w.heap.size w w') : Own enc k e B v l w' :=
  ho.none_ ⟨hb.os, hb.tape, hb.output, hb.size, fun i hi _ => hb.block i hi⟩
theorem bel_own (h : Below B w0 w) (hB : B ≤ w.heap.size) (ho : Own enc k e B v l w) (hg : w.grownBy w' v.ownBlock) : Below B w0 w' :=
  h.trans ⟨hg.os, hg.tape, hg.output, hg.size, fun i hi => hg.block i (by omega) (ho.far hi)⟩
theorem own_empty {h : Nat} (hE : Bk h e #[] w) (hb : B ≤ h) : Own enc k e B (.slice (some ⟨h, 0, none⟩) 0 0) [] w :=
  ⟨by simp [rowOf], .inr ⟨h, 0, #[], rfl, hb, hE, Nat.le_refl _, by simp [maxLen], by simp, by simp [rowOf]⟩⟩
/-- A slice's element, if it has one cell. -/
theorem Sl.one {A : Option Addr} {L : List α} {C : Nat} (h : Sl enc 1 w C A L) (hl : L ≠ []) : ∃ b off, A = some ⟨b, off, none⟩ ∧ b < C ∧ ∀ (i : Nat) x u, L[i]? = some x → (enc x)[0]? = some u → w.cell? ⟨b, off + i, none⟩ = some u := by
  obtain ⟨b, off, e1, hb, hc⟩ := h hl
  exact ⟨b, off, e1, hb, fun i x u hx hu => by have := hc i x hx 0 u hu; simpa using this⟩
end
/-- Days. -/
def encD (x : Int) : List Value := [.int .i64 x]
theorem encD_len (x : Int) : (encD x).length = 1 := rfl
theorem encD_one (x : Int) : ∀ u ∈ encD x, u.oneCell' = true := by
  intro u hu
  rw [List.mem_singleton.1 hu]; rfl
abbrev OwnD (B : Nat) (v : Value) (l : List Int) (w : World) : Prop := Own encD 1 24 B v l w
theorem dayInfo : (Tryz.prog.info? 24).map (fun i => (i.zero, i.size, i.bytes)) = some (some (.int .i64 0), 1, 8) := by kernel_rfl
theorem newsD (x : Int) (w : World) : ∀ j u, (encD x)[j]? = some u → (w.alloc (.cells #[.int .i64 x] 24)).cell? ⟨w.heap.size, j, none⟩ = some u := by
  intro j u hu
  have h := Bk.new w 24 #[.int .i64 x]
  rw [h.cell]
  simpa [encD] using hu
abbrev SlD (w : World) (A : Option Addr) (L : List Int) : Prop := Sl encD 1 w w.heap.size A L
end Go.Proofs.YtdkbbngedjiheaaGreatDoor
