import Derived.Test.YtdpejolpjhlibaaGreatDoorBase
import Derived.Test.YtdpejolpjhlibaaGreatDoorAdds
import Derived.Test.YtdpejolpjhlibaaGreatDoorCk8
/- The document's store: there, Back. -/
namespace Go.Proofs.YtdpejolpjhlibaaGreatDoor
open Go.RowKit Go.Sort

theorem placeI_hit {L : List Fa} {id : Int} {k : Nat} {f : Fa} (h0 : id ≠ 0) (h : ∀ (i : Nat) (g : Fa), i < k → L[i]? = some g → ¬ (id ≠ 0 ∧ g.id = id)) (hk : L[k]? = some f) (hf : f.id = id) : placeI L id = (k : Int) := by
  unfold placeI
  rw [if_neg h0, idxI_hit (k := k) (fun i g hi hg he => h i g hi hg ⟨h0, he⟩) hk hf]
  simp
theorem placeI_none {L : List Fa} {id : Int} (h : ∀ (i : Nat) (g : Fa), i < L.length → L[i]? = some g → ¬ (id ≠ 0 ∧ g.id = id)) : placeI L id = -1 := by
  unfold placeI
  split
  · rfl
  · rename_i h0
    exact idxI_none (fun i g hg he => h i g (List.getElem?_eq_some_iff.1 hg).1 hg ⟨h0, he⟩)
theorem not_more {L : List Fa} {id : Int} {k : Nat} {f : Fa} (h : ∀ (i : Nat) (g : Fa), i < k → L[i]? = some g → ¬ (id ≠ 0 ∧ g.id = id)) (hk : L[k]? = some f) (hf : ¬ (id ≠ 0 ∧ f.id = id)) : ∀ (i : Nat) (g : Fa), i < k + 1 → L[i]? = some g → ¬ (id ≠ 0 ∧ g.id = id) := by
  intro i g hi hg
  rcases Nat.lt_succ_iff_lt_or_eq.1 hi with h1 | h1
  · exact h i g h1 hg
  · subst h1
    rw [hk] at hg
    injection hg with hg
    subst hg
    exact hf

set_option maxHeartbeats 2000000 in
set_option maxRecDepth 10000 in
theorem r9_there (L : List Fa) (A : Option Addr) (cap : Nat) (id : Int) (w : World) (hn : L.length ≤ 1000000) (hs : SlF w A L) :
    Calls Tryz.prog 33 #[.slice A L.length cap, .int .u32 id] w fun e w' => e = .returned (.int .i64 (placeI L id)) ∧ Below w.heap.size w w' := by
  have HS := Lib.hid hs
  clear hs
  go_enter Tryz.func33, Tryz.ntmps33
  go_wp2
  go_loopw [5] (fun iv wr => ∃ k : Nat, k ≤ L.length ∧ iv = .int .i64 k ∧ Hid (∀ (i : Nat) (g : Fa), i < k → L[i]? = some g → ¬ (id ≠ 0 ∧ g.id = id)) ∧ Hid (Below w.heap.size w wr)) (fun iv _ => L.length - (intOf iv).toNat)
  case atStart => exact ⟨0, Nat.zero_le _, rfl, Lib.hid (fun i g h => absurd h (by omega)), Lib.hid (Below.refl _ _)⟩
  case round =>
    obtain ⟨k, hk, rfl, HP, HB⟩ := hrel
    by_cases hlt : k < L.length
    · obtain ⟨b, off, rfl, hbl, hat⟩ := HS.out.open_ (by intro h; simp [h] at hlt)
      obtain ⟨f, hx⟩ : ∃ x, L[k]? = some x := ⟨_, List.getElem?_eq_getElem hlt⟩
      have hat1 := (hat k f hx).below HB.out
      have C0 := hat1.c0
      have HX := Lib.hid hx
      have HBA : Hid (∀ o, Below w.heap.size w (wr.alloc o)) := Lib.hid (fun o => bTrans HB.out (bAlloc wr o))
      clear hat hat1 hx
      by_cases h0 : id = 0
      · have b0 : (id != 0) = false := by rw [h0]; rfl
        have HN := Lib.hid (not_more HP.out HX.out (fun h => h.1 h0))
        clear h0
        go_wp2
        exact ⟨⟨k + 1, by omega, by go_num, HN, HB⟩, by simp [intOf]; omega⟩
      · have b0 : (id != 0) = true := bne_iff_ne.2 h0
        have H0 := Lib.hid h0
        clear h0
        by_cases hid : f.id = id
        · have bi : (f.id == id) = true := beq_iff_eq.2 hid
          have HF := Lib.hid (placeI_hit H0.out HP.out HX.out hid)
          clear hid
          go_wp2
          go_ret
          exact ⟨by rw [HF.out]; rfl, HB.out⟩
        · have bi : (f.id == id) = false := beq_eq_false_iff_ne.2 hid
          have HN := Lib.hid (not_more HP.out HX.out (fun h => hid h.2))
          clear hid
          go_wp2
          exact ⟨⟨k + 1, by omega, by go_num, HN, HB⟩, by simp [intOf]; omega⟩
    · obtain rfl : k = L.length := by omega
      have HF := Lib.hid (placeI_none HP.out)
      go_wp2
      go_ret
      exact ⟨by rw [HF.out]; rfl, HB.out⟩

set_option maxHeartbeats 2000000 in
set_option maxRecDepth 10000 in
theorem r9_Back (L : List Fa) (A : Option Addr) (cap : Nat) (n : Int) (w : World) (hn : L.length ≤ 1000000) (h0 : 0 ≤ n ∧ n ≤ 1000000) (hs : SlF w A L) :
    Calls Tryz.prog 34 #[.slice A L.length cap, .int .i64 n] w fun e w' => e = .returned (.bool (takenB L (n + 1))) ∧ Below w.heap.size w w' := by
  have HS := Lib.hid hs
  clear hs
  go_enter Tryz.func34, Tryz.ntmps34
  go_wp2
  go_loopw [5] (fun iv wr => ∃ k : Nat, k ≤ L.length ∧ iv = .int .i64 k ∧ Hid (takenB (L.take k) (n + 1) = false) ∧ Hid (Below w.heap.size w wr)) (fun iv _ => L.length - (intOf iv).toNat)
  case atStart => exact ⟨0, Nat.zero_le _, rfl, Lib.hid rfl, Lib.hid (Below.refl _ _)⟩
  case round =>
    obtain ⟨k, hk, rfl, HP, HB⟩ := hrel
    by_cases hlt : k < L.length
    · obtain ⟨b, off, rfl, hbl, hat⟩ := HS.out.open_ (by intro h; simp [h] at hlt)
      obtain ⟨f, hx⟩ : ∃ x, L[k]? = some x := ⟨_, List.getElem?_eq_getElem hlt⟩
      have hat1 := (hat k f hx).below HB.out
      have C2 := hat1.c2
      have C6 := hat1.c6
      have HX := Lib.hid hx
      clear hat hat1 hx
      by_cases h18 : f.ki = 18
      · have b18 : (f.ki == 18) = true := beq_iff_eq.2 h18
        have H18 := Lib.hid h18
        clear h18
        by_cases hnu : f.nu = n + 1
        · have bn : (f.nu == n + 1) = true := beq_iff_eq.2 hnu
          have HF : Hid (takenB L (n + 1) = true) := Lib.hid (any_bad HX.out (decide_eq_true ⟨H18.out, hnu⟩))
          clear hnu
          go_wp2
          go_ret
          exact ⟨ret_b HF.out.symm, HB.out⟩
        · have bn : (f.nu == n + 1) = false := beq_eq_false_iff_ne.2 hnu
          have HN : Hid (takenB (L.take (k + 1)) (n + 1) = false) := Lib.hid (any_more HP.out HX.out (decide_eq_false (fun h => hnu h.2)))
          clear hnu
          go_wp2
          exact ⟨⟨k + 1, by omega, by go_num, HN, HB⟩, by simp [intOf]; omega⟩
      · have b18 : (f.ki == 18) = false := beq_eq_false_iff_ne.2 h18
        have HN : Hid (takenB (L.take (k + 1)) (n + 1) = false) := Lib.hid (any_more HP.out HX.out (decide_eq_false (fun h => h18 h.1)))
        clear h18
        go_wp2
        exact ⟨⟨k + 1, by omega, by go_num, HN, HB⟩, by simp [intOf]; omega⟩
    · obtain rfl : k = L.length := by omega
      have HF : Hid (takenB L (n + 1) = false) := Lib.hid (by have := HP.out; rwa [List.take_length] at this)
      go_wp2
      go_ret
      exact ⟨ret_b HF.out.symm, HB.out⟩
end Go.Proofs.YtdpejolpjhlibaaGreatDoor
