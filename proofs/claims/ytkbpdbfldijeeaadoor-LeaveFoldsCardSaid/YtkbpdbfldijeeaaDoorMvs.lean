/- moves: the reference's moves out of the program's. -/
import Derived.Test.YtkbpdbfldijeeaaDoorFol
import Derived.Test.YtkbpdbfldijeeaaDoorDe
import Derived.Test.YtkbpdbfldijeeaaDoorApp
import Derived.Deep.RegionHeldLaw
import Derived.Deep.AppendLies
import Derived.Deep.RegionHeld3
namespace Go.Proofs.YtkbpdbfldijeeaaDoor
open Go.RowKit Go.Sort Go.BigFrame

theorem rmoveInfo : (Tryd.prog.info? 61).map (fun i => (i.zero, i.size, i.bytes)) = some (some (.agg #[.int .i64 0, .int .i64 0, .int .i64 0]), 3, 24) := by kernel_rfl
/-- A slice value that reads as a list. -/
def Reads (v : Value) (l : List Mv) (w : World) : Prop := ∃ A cap, v = .slice A l.length cap ∧ Sl encM 3 w w.heap.size A l
theorem reads_own {e : TypeId} {base : Nat} {v : Value} {l : List Mv} {w : World} (h : Own encM 3 e base v l w) (hl : l.length = 0 → v = .slice none 0 0) : Reads v l w := by
  by_cases h0 : l = []
  · subst h0
    exact ⟨none, 0, hl rfl, fun h => absurd rfl h⟩
  · obtain ⟨g, cap, hv, _, _, _, hs⟩ := h.sl encM_len h0
    exact ⟨_, cap, hv, hs⟩

set_option maxHeartbeats 1000000 in
set_option maxRecDepth 100000 in
theorem lw_moves (l : List Mv) (A : Option Addr) (cap : Nat) (w : World) (hn : l.length ≤ 100) (hs : Sl encM 3 w w.heap.size A l) :
    Calls Tryd.prog 12 #[.slice A l.length cap] w fun e w' => ∃ v, e = .returned v ∧ Reads v l w' ∧ Below w.heap.size w w' := by
  go_enter Tryd.func12, Tryd.ntmps12
  have HS := Lib.hid hs
  clear hs
  go_wp2
  go_loopw [3, 4] (fun ov iv wr => ∃ (sv : Value) (n : Nat), sv = ov ∧ n ≤ l.length ∧ iv = .int .i64 n ∧ Hid (Own encM 3 61 w.heap.size ov (l.take n) wr) ∧ Hid (Below w.heap.size w wr) ∧ (n = 0 → ov = .slice none 0 0)) (fun _ iv _ => l.length - (intOf iv).toNat)
  case atStart => exact ⟨_, 0, rfl, Nat.zero_le _, rfl, Lib.hid (by simpa using Own.nil _), Lib.hid (Below.refl _ _), fun _ => rfl⟩
  case round =>
    obtain ⟨ov, n, rfl, hn1, rfl, HO, HB, h0⟩ := hrel
    by_cases hlt : n < l.length
    · obtain ⟨b, off, rfl, hB, hc⟩ := HS.out (by intro h; simp [h] at hlt)
      obtain ⟨⟨d, gr, tk⟩, hx⟩ : ∃ x, l[n]? = some x := ⟨_, List.getElem?_eq_getElem hlt⟩
      have C0 : wr.cell? ⟨b, off + n * 3, none⟩ = some (.int .i64 d) := (HB.out.cell (p := ⟨b, off + n * 3, none⟩) hB).trans (by simpa using hc n _ hx 0 _ rfl)
      have C1 : wr.cell? ⟨b, off + n * 3 + 1, none⟩ = some (.int .i64 gr) := (HB.out.cell (p := ⟨b, off + n * 3 + 1, none⟩) hB).trans (hc n _ hx 1 _ rfl)
      have C2 : wr.cell? ⟨b, off + n * 3 + 2, none⟩ = some (.int .i64 tk) := (HB.out.cell (p := ⟨b, off + n * 3 + 2, none⟩) hB).trans (hc n _ hx 2 _ rfl)
      have HX := Lib.hid hx
      have hln : (l.take n).length = n := by rw [List.length_take]; omega
      have HL : (l.take n).length + 1 ≤ 1000000000 := by omega
      have hbs := HB.out.size
      clear hc hx h0
      have KK : Hid (∀ W, Below w.heap.size wr W → W.cell? ⟨b, off + n * 3, none⟩ = some (.int .i64 d) ∧ W.cell? ⟨b, off + n * 3 + 1, none⟩ = some (.int .i64 gr) ∧ W.cell? ⟨b, off + n * 3 + 2, none⟩ = some (.int .i64 tk)) := Lib.hid (fun W hW => ⟨(hW.cell (p := ⟨b, off + n * 3, none⟩) hB).trans C0, (hW.cell (p := ⟨b, off + n * 3 + 1, none⟩) hB).trans C1, (hW.cell (p := ⟨b, off + n * 3 + 2, none⟩) hB).trans C2⟩)
      obtain ⟨inf, hi1, hi2, hi3, hi4⟩ := info_parts rmoveInfo
      have HI1 := Lib.hid hi1
      have HI2 := Lib.hid hi2
      have HI3 := Lib.hid hi3
      have HI4 := Lib.hid hi4
      have GD : Hid (Below w.heap.size wr wr.drew) := Lib.hid (belowMono (Grows.of_drew wr).below hbs)
      have GA : Hid (∀ o, Below w.heap.size wr (wr.drew.alloc o)) := Lib.hid (fun o => belowMono ((Grows.of_drew wr).alloc o).below hbs)
      have GW : Hid (∀ o w1, (wr.drew.alloc o).grownBy w1 ov.ownBlock → Below w.heap.size wr w1) := Lib.hid (fun o w1 h => bwTrans (GA.out o) (grownBelow h (fun k hk => (HO.out.lt hk).1) (Nat.le_trans hbs (Grows.of_alloc wr.drew o).size)) (Nat.le_refl _))
      have HN : Hid (∀ j u, (encM (d, gr, tk))[j]? = some u → (wr.drew.alloc (.cells #[.int .i64 d, .int .i64 gr, .int .i64 tk] 61)).cell? ((⟨wr.heap.size, 0, none⟩ : Addr).add j) = some u) := Lib.hid (World.news_of_block (new_block wr.drew _))
      have HOW : Hid (∀ o, (wr.drew.alloc o).ownsRow w.heap.size 61 3 ov n (rowOf encM (l.take n))) := Lib.hid (fun o => by have := HO.out.grows ((Grows.of_drew wr).alloc o); unfold Own at this; rwa [hln] at this)
      clear hi1 hi2 hi3 hi4
      go_wp2_with fail
      go_region_held_law (fun w' => w'.cell? ⟨b, off + n * 3, none⟩ = some (.int .i64 d) ∧ w'.cell? ⟨b, off + n * 3 + 1, none⟩ = some (.int .i64 gr) ∧ w'.cell? ⟨b, off + n * 3 + 2, none⟩ = some (.int .i64 tk)) (first | exact KK.out _ GD.out | exact KK.out _ (GA.out _) | exact KK.out _ (GW.out _ _ hgrow) | go_keep) (first | (refine step_append_lies _ (by rfl) _ _ _ (by rfl) w.heap.size 61 inf _ 3 24 Tryd.underlying33 HI1.out HI2.out HI3.out HI4.out rfl (by decide) ov n (rowOf encM (l.take n)) rfl (HOW.out _) ⟨wr.heap.size, 0, none⟩ 1 1 (encM (d, gr, tk)) rfl rfl HN.out (encM_one _) (by omega) (by simp only [maxLen]; omega) (by omega) (Nat.le_trans hbs (Grows.of_alloc wr.drew _).size) _ rfl ?_; intro g cap2 w1 hown1 hgrow hat hlt))
      have hO3 : Hid (Own encM 3 61 w.heap.size (.slice (some ⟨g, 0, none⟩) (n + 1) cap2) (l.take (n + 1)) w1) := Lib.hid (by
        unfold Own
        rw [List.take_add_one, HX.out, show (l.take n ++ (some (d, gr, tk)).toList) = l.take n ++ [(d, gr, tk)] from rfl, rowOf_append, rowOf_one, List.length_append, hln]
        exact hown1)
      have hB3 : Hid (Below w.heap.size w w1) := Lib.hid (belowTrans HB.out (GW.out _ _ hgrow))
      clear hown1 hgrow hat hlt
      go_wp2
      refine ⟨⟨_, n + 1, rfl, by omega, by go_num, hO3, hB3, fun h => by omega⟩, by simp [intOf]; omega⟩
    · obtain rfl : n = l.length := by omega
      go_wp2
      go_ret
      refine ⟨_, rfl, reads_own (by have := HO.out; rw [List.take_length] at this; exact this) h0, HB.out⟩
end Go.Proofs.YtkbpdbfldijeeaaDoor
