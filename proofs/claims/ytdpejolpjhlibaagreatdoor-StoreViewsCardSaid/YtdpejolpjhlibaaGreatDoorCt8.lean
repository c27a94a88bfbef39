/- The reference's Cut of a text. -/
import Derived.Test.YtdpejolpjhlibaaGreatDoorImps
import Derived.Test.YtdpejolpjhlibaaGreatDoorTen8
import Derived.Test.YtdpejolpjhlibaaGreatDoorThos
namespace Go.Proofs.YtdpejolpjhlibaaGreatDoor
open Go.RowKit Go.Sort

def encT (s : ByteArray) : List Value := [.string s]
theorem encT_len (s : ByteArray) : (encT s).length = 1 := rfl
theorem encT_one (s : ByteArray) : ∀ u ∈ encT s, u.oneCell' = true := by
  intro u hu
  rw [List.mem_singleton.1 hu]; rfl
theorem textInfo : (Tryz.prog.info? 9).map (fun i => (i.zero, i.size, i.bytes)) = some (some (.string ⟨#[]⟩), 1, 16) := by kernel_rfl
/-- Texts in a slice. -/
abbrev SlT (w : World) (A : Option Addr) (L : List ByteArray) : Prop := Sl encT 1 w w.heap.size A L
theorem rowOf_T : ∀ L : List ByteArray, rowOf encT L = L.map Value.string
  | [] => rfl
  | s :: L => by
    show encT s ++ rowOf encT L = _
    rw [rowOf_T L]; rfl
/-- A last text is turned. -/
theorem own_last {B : Nat} {v : Value} {L : List ByteArray} {z : ByteArray} {w : World} (h : Own encT 1 9 B v (L ++ [z]) w) : ∃ g cap, v = .slice (some ⟨g, 0, none⟩) (L ++ [z]).length cap ∧ B ≤ g ∧ g < w.heap.size ∧ (L ++ [z]).length ≤ cap ∧ w.cell? ⟨g, L.length, none⟩ = some (.string z) ∧ w.frozen? ⟨g, L.length, none⟩ = false ∧
    ∀ z', Own encT 1 9 B v (L ++ [z']) (w.setCell ⟨g, L.length, none⟩ (.string z')) ∧ w.grownBy (w.setCell ⟨g, L.length, none⟩ (.string z')) (some g) := by
  obtain ⟨g, cap, rfl, hb, hr⟩ := h.row encT_len (by simp)
  refine ⟨g, cap, rfl, hb, hr.lt, hr.le, ?_, hr.frozen _, fun z' => ?_⟩
  · have := hr.cell (i := L.length) (x := z) (by simp) (j := 0) rfl
    simpa using this
  · have h1 : w.ownsRow B 9 1 (.slice (some ⟨g, 0, none⟩) (L ++ [z]).length cap) (L ++ [z]).length (rowOf encT (L ++ [z])) := h
    have h2 := World.ownsRow.stored h1 L.length (.string z')
    refine ⟨?_, h2.2⟩
    have h3 := h2.1
    unfold Own
    have e1 : (L ++ [z']).length = (L ++ [z]).length := by simp
    have e2 : rowOf encT (L ++ [z']) = (rowOf encT (L ++ [z])).set L.length (.string z') := by
      rw [rowOf_T, rowOf_T, List.map_append, List.map_append]
      rw [List.set_append_right _ _ (by simp)]
      simp
    rw [e1, e2]
    exact h3
theorem Own.slT {B : Nat} {v : Value} {l : List ByteArray} {w : World} (h : Own encT 1 9 B v l w) (h0 : l ≠ []) : ∃ A cap, v = .slice A l.length cap ∧ l.length ≤ cap ∧ SlT w A l := by
  obtain ⟨g, cap, rfl, hb, hr⟩ := h.row encT_len h0
  exact ⟨some ⟨g, 0, none⟩, cap, rfl, hr.le, fun _ => ⟨g, 0, rfl, hr.lt, fun i x hx j u hu => by rw [Nat.zero_add]; exact hr.cell hx hu⟩⟩
theorem take_byte {s : ByteArray} {k : Nat} {b : UInt8} (h : (ls s)[k]? = some b) : (ls s).take (k + 1) = (ls s).take k ++ [b] := by rw [List.take_add_one, h]; rfl
/-- What Cut has behind k bytes. -/
structure CutK (s : ByteArray) (c : UInt8) (k : Nat) (L : List ByteArray) : Prop where
  eq : L.map ls = pieces c ((ls s).take k)
  len : L.length ≤ k + 1
theorem CutK.sep {s : ByteArray} {c : UInt8} {k : Nat} {L : List ByteArray} (h : CutK s c k L) (hb : (ls s)[k]? = some c) : CutK s c (k + 1) (L ++ [⟨#[]⟩]) :=
  ⟨by rw [take_byte hb, pieces_snoc_sep, ← h.eq]; simp [ls], by have := h.len; simp; omega⟩
theorem CutK.last {s : ByteArray} {c : UInt8} {k : Nat} {L : List ByteArray} (h : CutK s c k L) : ∃ I z, L = I ++ [z] := by
  rcases List.eq_nil_or_concat L with h0 | ⟨I, z, h0⟩
  · have := h.eq
    rw [h0] at this
    exact absurd this.symm (pieces_ne _ _)
  · exact ⟨I, z, by rw [h0, List.concat_eq_append]⟩
theorem CutK.byte {s : ByteArray} {c b : UInt8} {k : Nat} {I : List ByteArray} {z z' : ByteArray} (h : CutK s c k (I ++ [z])) (hb : (ls s)[k]? = some b) (hne : b ≠ c) (hz : ls z' = ls z ++ [b]) : CutK s c (k + 1) (I ++ [z']) :=
  ⟨by
    have h1 : pieces c ((ls s).take k) = I.map ls ++ [ls z] := by rw [← h.eq]; simp
    rw [take_byte hb, pieces_snoc h1 hne]; simp [hz], by have := h.len; simp at this ⊢; omega⟩
theorem CutK.size {s : ByteArray} {c : UInt8} {k : Nat} {I : List ByteArray} {z : ByteArray} (h : CutK s c k (I ++ [z])) : z.size ≤ s.size := by
  have h1 := (pieces_le c ((ls s).take k)).2 (ls z) (by rw [← h.eq]; simp)
  rw [ls_len, List.length_take, ls_len] at h1
  omega
set_option maxHeartbeats 2000000 in
set_option maxRecDepth 100000 in
theorem r8_Cut (s : ByteArray) (c : UInt8) (w : World) (hs : s.size ≤ 1000000) :
    Calls Tryz.prog 109 #[.string s, .int .u8 (c.toNat : Int)] w fun e w' => (∃ A cap L, e = .returned (.slice A L.length cap) ∧ L.map ls = pieces c (ls s) ∧ SlT w' A L) ∧ Below w.heap.size w w' := by
  have HST := Lib.hid (CutK.mk (s := s) (c := c) (k := 0) (L := [⟨#[]⟩]) (by simp [pieces, ls]) (by simp))
  have HO0 : Hid (Own encT 1 9 w.heap.size (.slice (some ⟨w.heap.size, 0, none⟩) 1 1) [⟨#[]⟩] (w.alloc (.cells #[.string ⟨#[]⟩] 9))) := Lib.hid
    ⟨by rw [rowOf_T]; rfl, .inr ⟨w.heap.size, 1, _, rfl, Nat.le_refl _, Bk.new w _ _, Nat.le_refl _, by decide, rfl, rfl⟩⟩
  have HB0 : Hid (Below w.heap.size w (w.alloc (.cells #[.string ⟨#[]⟩] 9))) := Lib.hid (bAlloc _ _)
  go_enter Tryz.func109, Tryz.ntmps109
  go_wp2
  go_loopw [5, 6] (fun v iv wr => ∃ (k : Nat) (L : List ByteArray), k ≤ s.size ∧ iv = .int .i64 k ∧ Hid (CutK s c k L) ∧ Hid (Own encT 1 9 w.heap.size v L wr) ∧ Hid (Below w.heap.size w wr)) (fun _ iv _ => s.size - (intOf iv).toNat)
  case atStart => exact ⟨0, [⟨#[]⟩], Nat.zero_le _, rfl, HST, HO0, HB0⟩
  case round =>
    obtain ⟨k, L, hk, rfl, HC, HO, HB⟩ := hrel
    by_cases hlt : k < s.size
    · obtain ⟨b, hb, hbb⟩ := byte_some hlt
      have hra := run_at (P := Tryz.prog) 9 Tryz.underlying9 s k hlt
      rw [hbb] at hra
      have HBY := Lib.hid hb
      have hb0 : 0 ≤ (b.toNat : Int) := by omega
      clear hb hbb
      by_cases hbc : b = c
      · subst hbc
        have HC2 := Lib.hid (HC.out.sep HBY.out)
        have hd : ((b.toNat : Int) == (b.toNat : Int)) = true := by simp
        have HLN := HC.out.len
        have HSZ : Hid (w.heap.size ≤ (wr.alloc (.cells #[.string ⟨#[]⟩] 9)).heap.size) := Lib.hid (Nat.le_trans HB.out.size (Grows.of_alloc _ _).size)
        have HNW : Hid (∀ j u, (encT ⟨#[]⟩)[j]? = some u → (wr.alloc (.cells #[.string ⟨#[]⟩] 9)).cell? ⟨wr.heap.size, j, none⟩ = some u) := Lib.hid fun j u hu => by
          rw [(Bk.new wr 9 #[.string ⟨#[]⟩]).cell]; simpa [encT] using hu
        go_wp2_with ((at_builtin; refine wpList_append_row encT_len encT_one rfl _ _ 124 rfl w.heap.size 9 _ 16 Tryz.underlying124 textInfo rfl (by decide) _ L ⟨#[]⟩ rfl (HO.out.alloc _) wr.heap.size 1 rfl HNW.out (by omega) (by decide) HSZ.out ?_))
        intro v6 w6 hown6 hgr6
        have HB6 : Hid (Below w.heap.size w w6) := Lib.hid ((bTrans HB.out (bAlloc wr (.cells #[.string ⟨#[]⟩] 9))).trans ⟨hgr6.os, hgr6.tape, hgr6.output, hgr6.size, fun i hi => hgr6.block i (by have := HSZ.out; omega) ((HO.out.alloc (.cells #[.string ⟨#[]⟩] 9)).far hi)⟩)
        have HO6 := Lib.hid hown6
        clear hown6 hgr6
        go_wp2
        exact ⟨⟨k + 1, _, by omega, by go_num, HC2, HO6, HB6⟩, by simp [intOf]; omega⟩
      · obtain ⟨I, z, rfl⟩ := HC.out.last
        obtain ⟨g, cap, rfl, hbg, hgl, hcap, hcell, hfro, hset⟩ := own_last HO.out
        have hd : ((b.toNat : Int) == (c.toNat : Int)) = false := by
          have : b.toNat ≠ c.toNat := fun h => hbc (UInt8.toNat_inj.1 h)
          simp; omega
        have HLN := HC.out.len
        have HZS := HC.out.size
        have HSE := Lib.hid hset
        have HBG := Lib.hid hbg
        rw [List.length_append, List.length_singleton] at HLN hcap
        obtain ⟨p, hp⟩ : ∃ p, I.length = p := ⟨_, rfl⟩
        obtain ⟨n, hn⟩ : ∃ n, (I ++ [z]).length = n := ⟨_, rfl⟩
        have hnp : n = p + 1 := by rw [← hn, List.length_append, hp]; rfl
        rw [hp] at hcell hfro HSE HLN hcap
        have w1 : IntKind.i64.wrap ((n : Int) - 1) = (p : Int) := by rw [IntWalk.i64_in _ (by omega)]; omega
        have w2 : IntKind.i64.wrap ((k : Int) + 1) = (k : Int) + 1 := IntWalk.i64_in _ (by omega)
        have hpn : (p : Int) < (n : Int) := by omega
        have hk2 : (k : Int) + 1 ≤ (s.size : Int) := by omega
        rw [hn]
        have HZB : Hid (ls (z ++ s.extract k (k + 1)) = ls z ++ [b]) := Lib.hid (by
          have h1 := Lib.extract_data s k (k + 1)
          unfold ls at h1 ⊢
          rw [ByteArray.data_append, Array.toList_append, h1]
          have h2 : (s.data.toList.drop k).take 1 = [b] := by
            have := HBY.out
            unfold ls at this
            rw [List.take_one, List.head?_drop, this]; rfl
          simpa using h2)
        have HC2 := Lib.hid (HC.out.byte HBY.out hbc HZB.out)
        have HN := Lib.hid (And.intro hn hnp)
        have HFI : Hid (Own encT 1 9 w.heap.size (.slice (some ⟨g, 0, none⟩) n cap) (I ++ [z ++ s.extract k (k + 1)]) (wr.setCell ⟨g, p, none⟩ (.string (z ++ s.extract k (k + 1)))) ∧ Below w.heap.size w (wr.setCell ⟨g, p, none⟩ (.string (z ++ s.extract k (k + 1))))) := Lib.hid (by
          have h := (HSE.out (z ++ s.extract k (k + 1))).1
          rw [hn] at h
          exact ⟨h, HB.out.setCell (p := ⟨g, p, none⟩) HBG.out _⟩)
        clear hn hnp hp hset hbg hbc HO
        go_wp2
        go_region
        all_goals go_wp2
        all_goals exact ⟨⟨k + 1, _, by omega, by go_num, HC2, Lib.hid (World.ownsRow.drew HFI.out.1), Lib.hid (bTrans HFI.out.2 (bDrew _))⟩, by simp [intOf]; omega⟩
    · obtain rfl : k = s.size := by omega
      have HE : Hid (L.map ls = pieces c (ls s)) := Lib.hid (by rw [HC.out.eq, ← ls_len, List.take_length])
      have hne : L ≠ [] := fun h => pieces_ne c (ls s) (by rw [← HE.out, h]; rfl)
      obtain ⟨A, cap, rfl, _, hsl⟩ := HO.out.slT hne
      have HSL := Lib.hid hsl
      clear hsl hne
      go_wp2
      go_ret
      exact ⟨⟨A, cap, L, rfl, HE.out, HSL.out⟩, HB.out⟩
end Go.Proofs.YtdpejolpjhlibaaGreatDoor
