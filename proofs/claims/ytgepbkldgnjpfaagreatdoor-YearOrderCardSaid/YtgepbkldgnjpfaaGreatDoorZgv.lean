/- Out of: Yk0 Yk1 Yj5. -/
import Derived.Test.YtgepbkldgnjpfaaGreatDoorShI
import Derived.Test.YtgepbkldgnjpfaaGreatDoorZgu
import Derived.Sort.KeysCollected
/- year: Text's put. -/
namespace Go.Proofs.YtgepbkldgnjpfaaGreatDoor
open Go.RowKit Go.Sort Go.BigFrame

def encW (s : ByteArray) : List Value := [.string s]
/-- Words, a space between each two. -/
def putG : Nat → ByteArray → List ByteArray → ByteArray
  | _, s, [] => s
  | i, s, x :: r => putG (i + 1) ((if 0 < i then s ++ ⟨#[32]⟩ else s) ++ x) r
theorem putG_size : ∀ (l : List ByteArray) (i : Nat) (s : ByteArray), s.size ≤ (putG i s l).size
  | [], _, _ => Nat.le_refl _
  | x :: r, i, s => by
    have h := putG_size r (i + 1) ((if 0 < i then s ++ ⟨#[32]⟩ else s) ++ x)
    have h2 : s.size ≤ ((if 0 < i then s ++ ⟨#[32]⟩ else s) ++ x).size := by
      rw [ByteArray.size_append]
      split
      · rw [ByteArray.size_append]; omega
      · omega
    exact Nat.le_trans h2 h
set_option maxHeartbeats 2000000 in
theorem yr_txt1 (l : List ByteArray) (A : Option Addr) (cap : Nat) (ob : Nat) (s : ByteArray) (w : World) (hn : l.length ≤ 1000000) (hz : (putG 0 s l).size < 9223372036854775807) (hb : Bk ob 9 #[.string s] w) (hs : ∀ W, Kep ob ob w W → Sl encW 1 W W.heap.size A l) :
    Calls Tryz.prog 25 #[.slice A l.length cap, .pointer (some ⟨ob, 0, none⟩)] w fun e w' => e = .returned (.tuple #[]) ∧ Bk ob 9 #[.string (putG 0 s l ++ ⟨#[10]⟩)] w' ∧ Kep ob ob w w' := by
  have HB := Lib.hid hb
  have HS := Lib.hid hs
  obtain ⟨R, hR⟩ : ∃ R, putG 0 s l = R := ⟨_, rfl⟩
  have HR := Lib.hid hR
  rw [hR] at hz ⊢
  have HZ := Lib.hid hz
  clear hb hs hR hz
  go_enter Tryz.func25, Tryz.ntmps25
  go_wp2
  go_loopg [7] l.length (fun kk iv wr => ∃ (n : Nat) (o : ByteArray), n + kk = l.length ∧ iv = .int .i64 n ∧ Hid (putG n o (l.drop n) = R) ∧ Hid (Bk ob 9 #[.string o] wr) ∧ Hid (Kep ob ob w wr))
  case atStart => exact ⟨0, s, Nat.zero_add _, rfl, HR, HB, Lib.hid (Kep.refl _)⟩
  case round =>
    obtain ⟨n, o, hn1, rfl, HA, HBW, HK⟩ := hrel
    by_cases hlt : n < l.length
    · obtain ⟨b, off, rfl, hB, hc⟩ := HS.out wr HK.out (by intro h; simp [h] at hlt)
      obtain ⟨x, hx⟩ : ∃ x, l[n]? = some x := ⟨_, List.getElem?_eq_getElem hlt⟩
      have C0 : wr.cell? ⟨b, off + n, none⟩ = some (.string x) := by simpa using hc n _ hx 0 _ rfl
      have hdrop : l.drop n = x :: l.drop (n + 1) := by
        rw [List.drop_eq_getElem_cons hlt]
        congr 1
        have := List.getElem?_eq_getElem hlt
        rw [hx] at this
        exact (Option.some.inj this).symm
      have HD : Hid (putG (n + 1) ((if 0 < n then o ++ ⟨#[32]⟩ else o) ++ x) (l.drop (n + 1)) = R) := Lib.hid (by rw [← HA.out, hdrop]; rfl)
      have B0 : wr.cell? ⟨ob, 0, none⟩ = some (.string o) := HBW.out.cell 0
      have B1 : wr.frozen? ⟨ob, 0, none⟩ = false := HBW.out.frozen 0
      have hsz : ((if 0 < n then o ++ ⟨#[32]⟩ else o) ++ x).size < 9223372036854775807 := by
        have := putG_size (l.drop (n + 1)) (n + 1) ((if 0 < n then o ++ ⟨#[32]⟩ else o) ++ x)
        rw [HD.out] at this
        have := HZ.out
        omega
      rw [ByteArray.size_append] at hsz
      clear hc hx hdrop
      by_cases h0 : n = 0
      · subst h0
        rw [if_neg (by omega)] at hsz
        have v1 : ¬9223372036854775807 < o.size + x.size := by omega
        have C1 : wr.cell? ⟨b, off, none⟩ = some (.string x) := by simpa using C0
        have HD2 : Hid (putG 1 (o ++ x) (l.drop 1) = R) := Lib.hid HD.out
        clear hsz C0
        go_wp2
        go_roundg (l.length - 1)
        case measure => omega
        case rel => exact ⟨1, o ++ x, by omega, by go_num, HD2, Lib.hid (HBW.out.set_ 0 _), Lib.hid (HK.out.trans (Kep.set _ _ _))⟩
      · have d0 : decide ((0 : Int) < n) = true := by simp; omega
        have hp : 0 < n := by omega
        rw [if_pos hp, ByteArray.size_append] at hsz
        have e1 : (⟨#[32]⟩ : ByteArray).size = 1 := rfl
        rw [e1] at hsz
        have v1 : ¬9223372036854775807 < o.size + 1 := by omega
        have v2 : ¬9223372036854775807 < o.size + 1 + x.size := by omega
        have HD2 : Hid (putG (n + 1) (o ++ ⟨#[32]⟩ ++ x) (l.drop (n + 1)) = R) := Lib.hid (by have := HD.out; rw [if_pos hp] at this; exact this)
        have hb1 : Bk ob 9 #[.string (o ++ ⟨#[32]⟩)] (wr.setCell ⟨ob, 0, none⟩ (.string (o ++ ⟨#[32]⟩))) := HBW.out.set_ 0 _
        have hb2 : Bk ob 9 #[.string (o ++ ⟨#[32]⟩ ++ x)] ((wr.setCell ⟨ob, 0, none⟩ (.string (o ++ ⟨#[32]⟩))).setCell ⟨ob, 0, none⟩ (.string (o ++ ⟨#[32]⟩ ++ x))) := hb1.set_ 0 _
        have HB2 := Lib.hid hb2
        have HK2 := Lib.hid ((HK.out.trans (Kep.set wr 0 (.string (o ++ ⟨#[32]⟩)))).trans (Kep.set _ 0 (.string (o ++ ⟨#[32]⟩ ++ x))))
        clear hsz e1 h0 hb1 hb2
        go_wp2
        go_roundg (l.length - (n + 1))
        case measure => omega
        case rel => exact ⟨n + 1, o ++ ⟨#[32]⟩ ++ x, by omega, by go_num, HD2, HB2, HK2⟩
    · obtain rfl : n = l.length := by omega
      have B0 : wr.cell? ⟨ob, 0, none⟩ = some (.string o) := HBW.out.cell 0
      have B1 : wr.frozen? ⟨ob, 0, none⟩ = false := HBW.out.frozen 0
      have hRo : o = R := by have h := HA.out; rw [List.drop_length] at h; exact h
      subst hRo
      have v1 : ¬9223372036854775807 < o.size + 1 := by have := HZ.out; omega
      go_wp2
      go_end0
      exact ⟨rfl, HBW.out.set_ 0 _, HK.out.trans (Kep.set _ _ _)⟩
end Go.Proofs.YtgepbkldgnjpfaaGreatDoor

/- year: a map's keys, sorted; the text of a state, in plain (gen/mkyk1.py). -/
namespace Go.Proofs.YtgepbkldgnjpfaaGreatDoor
open Go.RowKit Go.Sort Go.BigFrame Go.Maps

/-- Each once. -/
def ndL : List (List UInt8) → List (List UInt8)
  | [] => []
  | x :: r => if x ∈ ndL r then ndL r else x :: ndL r
theorem ndL_mem {x : List UInt8} : ∀ l : List (List UInt8), x ∈ ndL l ↔ x ∈ l
  | [] => Iff.rfl
  | y :: r => by
    unfold ndL
    have ih := ndL_mem (x := x) r
    by_cases h : y ∈ ndL r
    · rw [if_pos h, List.mem_cons, ih]
      exact ⟨Or.inr, fun h2 => h2.elim (fun e => by rw [e]; exact (ndL_mem r).1 h) id⟩
    · rw [if_neg h, List.mem_cons, List.mem_cons, ih]
theorem ndL_nodup : ∀ l : List (List UInt8), (ndL l).Nodup
  | [] => List.nodup_nil
  | y :: r => by
    unfold ndL
    by_cases h : y ∈ ndL r
    · rw [if_pos h]; exact ndL_nodup r
    · rw [if_neg h]; exact List.nodup_cons.2 ⟨h, ndL_nodup r⟩
/-- A map's keys, rising. -/
def keysA {β : Type} (m : Ass ByteArray β) : List (List UInt8) := (ndL (m.map fun p => p.1.data.toList)).mergeSort leB
def keyB {β : Type} (m : Ass ByteArray β) : List ByteArray := (keysA m).map fun x => ⟨x.toArray⟩
section
variable {β : Type} {enc : β → Value}
theorem has_iff (m : Ass ByteArray β) (x : List UInt8) : has (dA kS enc m) (.string x) = true ↔ x ∈ m.map fun p => p.1.data.toList := by
  have e : (Lit.string x) = kS ⟨x.toArray⟩ := by simp [kS]
  rw [e, dA_has kS_W, Option.isSome_iff_exists]
  constructor
  · rintro ⟨v, hv⟩
    obtain ⟨p, hp, hk⟩ := getA_key hv
    exact List.mem_map.2 ⟨p, hp, by rw [hk]⟩
  · intro h
    obtain ⟨p, hp, hk⟩ := List.mem_map.1 h
    refine getA_of_mem ⟨p, hp, ?_⟩
    rw [← hk]
theorem keys_perm {m : Ass ByteArray β} {n b : Nat} {w : World} (h : w.ownsMap Tryz.prog 9 heldV b n (dA kS enc m)) : (ndL (m.map fun p => p.1.data.toList)).Perm (strKeys (dA kS enc m)) :=
  Collected.perm (left := fun _ => false) ⟨ndL_nodup _, fun x => by rw [ndL_mem, ← has_iff (enc := enc)]; simp⟩ h keyT Tryz.underlying9 (fun _ => rfl)
end
theorem keyB_len {β : Type} {enc : β → Value} {m : Ass ByteArray β} {n : Nat} {v : Value} {w : World} (hm : MapV 9 kS enc m n v w) : (keyB m).length ≤ n := by
  rcases hm with ⟨_, rfl⟩ | ⟨b, _, hown⟩
  · simp [keyB, keysA, ndL]
  · have h := World.ownsMap.size_le hown
    unfold keyB keysA
    rw [List.length_map, List.length_mergeSort, (keys_perm hown).length_eq]
    obtain ⟨es, hD, _⟩ := hown.keysOf
    rw [hD] at h ⊢
    simpa [strKeys, Maps.size] using h
theorem encW_len (s : ByteArray) : (encW s).length = 1 := rfl
theorem rowW : ∀ l : List ByteArray, rowOf encW l = l.map Value.string
  | [] => rfl
  | x :: r => by
    have ih := rowW r
    simp only [rowOf] at ih ⊢
    simp [encW, ih]
theorem rowK (l : List (List UInt8)) : rowOf encW (l.map fun x => (⟨x.toArray⟩ : ByteArray)) = l.map encStr := by
  rw [rowW, List.map_map]
  rfl
/-- The keys of a map, sorted. -/
theorem keys_be (m : Ass ByteArray Int) (n : Nat) (mb : Option Nat) (w : World) (hm : MpC m n (.map mb) w) (hn : n ≤ 1000000000) :
    Calls Tryz.prog 27 #[.func (.func 51) #[] #[.pointer (some ⟨w.heap.size, 0, none⟩)]] (w.alloc (.cells #[.map mb] 26)) fun e w' => ∃ v, e = .returned v ∧ Own encW 1 9 (w.alloc (.cells #[.map mb] 26)).heap.size v (keyB m) w' ∧ Below (w.alloc (.cells #[.map mb] 26)).heap.size (w.alloc (.cells #[.map mb] 26)) w' := by
  rcases hm with ⟨h, rfl⟩ | ⟨b, h, hown⟩
  · obtain rfl : mb = none := by injection h
    refine (callsIn_wide.1 (Tryz.slices_Sorted_keys_nil_27_28 w)).mono ?_
    rintro e w' ⟨v, ss, rfl, rfl, hrow, _, hb⟩
    refine ⟨v, rfl, ?_, hb⟩
    unfold Own
    have e1 : keyB ([] : Ass ByteArray Int) = [] := by simp [keyB, keysA, ndL]
    rw [e1]
    simpa [rowW] using hrow
  · obtain rfl : mb = some b := by injection h
    have hsz := World.ownsMap.size_le hown
    refine (callsIn_wide.1 (Tryz.slices_Sorted_keys_27_28 b n _ heldV w hown (by simp only [maxLen]; omega) (by omega))).mono ?_
    rintro e w' ⟨v, ss, rfl, hS, hrow, _, hb⟩
    refine ⟨v, rfl, ?_, hb⟩
    unfold Own
    have e1 : (keyB m).length = ss.length := by
      unfold keyB keysA
      rw [List.length_map, List.length_mergeSort]
      exact ((keys_perm hown).trans hS.symm).length_eq
    have e2 : ss.mergeSort (fun x y => decide (x ≤ y)) = keysA m := mergeSort_of_perm (hS.trans (keys_perm hown).symm)
    rw [e1]
    unfold keyB
    rw [rowK, ← e2]
    exact hrow
theorem iter_be (mb : Option Nat) (w : World) : Calls Tryz.prog 28 #[.map mb] w fun e w' => e = .returned (.func (.func 51) #[] #[.pointer (some ⟨w.heap.size, 0, none⟩)]) ∧ w' = w.alloc (.cells #[.map mb] 26) :=
  callsIn_wide.1 (Tryz.maps_Keys_28 mb w)
/-- The keys of a map, sorted. -/
theorem keys_so (m : Ass ByteArray S4) (n : Nat) (mb : Option Nat) (w : World) (hm : MpS m n (.map mb) w) (hn : n ≤ 1000000000) :
    Calls Tryz.prog 27 #[.func (.func 53) #[] #[.pointer (some ⟨w.heap.size, 0, none⟩)]] (w.alloc (.cells #[.map mb] 27)) fun e w' => ∃ v, e = .returned v ∧ Own encW 1 9 (w.alloc (.cells #[.map mb] 27)).heap.size v (keyB m) w' ∧ Below (w.alloc (.cells #[.map mb] 27)).heap.size (w.alloc (.cells #[.map mb] 27)) w' := by
  rcases hm with ⟨h, rfl⟩ | ⟨b, h, hown⟩
  · obtain rfl : mb = none := by injection h
    refine (callsIn_wide.1 (Tryz.slices_Sorted_keys_nil_27_30 w)).mono ?_
    rintro e w' ⟨v, ss, rfl, rfl, hrow, _, hb⟩
    refine ⟨v, rfl, ?_, hb⟩
    unfold Own
    have e1 : keyB ([] : Ass ByteArray S4) = [] := by simp [keyB, keysA, ndL]
    rw [e1]
    simpa [rowW] using hrow
  · obtain rfl : mb = some b := by injection h
    have hsz := World.ownsMap.size_le hown
    refine (callsIn_wide.1 (Tryz.slices_Sorted_keys_27_30 b n _ heldV w hown (by simp only [maxLen]; omega) (by omega))).mono ?_
    rintro e w' ⟨v, ss, rfl, hS, hrow, _, hb⟩
    refine ⟨v, rfl, ?_, hb⟩
    unfold Own
    have e1 : (keyB m).length = ss.length := by
      unfold keyB keysA
      rw [List.length_map, List.length_mergeSort]
      exact ((keys_perm hown).trans hS.symm).length_eq
    have e2 : ss.mergeSort (fun x y => decide (x ≤ y)) = keysA m := mergeSort_of_perm (hS.trans (keys_perm hown).symm)
    rw [e1]
    unfold keyB
    rw [rowK, ← e2]
    exact hrow
theorem iter_so (mb : Option Nat) (w : World) : Calls Tryz.prog 30 #[.map mb] w fun e w' => e = .returned (.func (.func 53) #[] #[.pointer (some ⟨w.heap.size, 0, none⟩)]) ∧ w' = w.alloc (.cells #[.map mb] 27) :=
  callsIn_wide.1 (Tryz.maps_Keys_30 mb w)
/-- The keys of a map, sorted. -/
theorem keys_od (m : Ass ByteArray Int) (n : Nat) (mb : Option Nat) (w : World) (hm : MpC m n (.map mb) w) (hn : n ≤ 1000000000) :
    Calls Tryz.prog 27 #[.func (.func 54) #[] #[.pointer (some ⟨w.heap.size, 0, none⟩)]] (w.alloc (.cells #[.map mb] 31)) fun e w' => ∃ v, e = .returned v ∧ Own encW 1 9 (w.alloc (.cells #[.map mb] 31)).heap.size v (keyB m) w' ∧ Below (w.alloc (.cells #[.map mb] 31)).heap.size (w.alloc (.cells #[.map mb] 31)) w' := by
  rcases hm with ⟨h, rfl⟩ | ⟨b, h, hown⟩
  · obtain rfl : mb = none := by injection h
    refine (callsIn_wide.1 (Tryz.slices_Sorted_keys_nil_27_31 w)).mono ?_
    rintro e w' ⟨v, ss, rfl, rfl, hrow, _, hb⟩
    refine ⟨v, rfl, ?_, hb⟩
    unfold Own
    have e1 : keyB ([] : Ass ByteArray Int) = [] := by simp [keyB, keysA, ndL]
    rw [e1]
    simpa [rowW] using hrow
  · obtain rfl : mb = some b := by injection h
    have hsz := World.ownsMap.size_le hown
    refine (callsIn_wide.1 (Tryz.slices_Sorted_keys_27_31 b n _ heldV w hown (by simp only [maxLen]; omega) (by omega))).mono ?_
    rintro e w' ⟨v, ss, rfl, hS, hrow, _, hb⟩
    refine ⟨v, rfl, ?_, hb⟩
    unfold Own
    have e1 : (keyB m).length = ss.length := by
      unfold keyB keysA
      rw [List.length_map, List.length_mergeSort]
      exact ((keys_perm hown).trans hS.symm).length_eq
    have e2 : ss.mergeSort (fun x y => decide (x ≤ y)) = keysA m := mergeSort_of_perm (hS.trans (keys_perm hown).symm)
    rw [e1]
    unfold keyB
    rw [rowK, ← e2]
    exact hrow
theorem iter_od (mb : Option Nat) (w : World) : Calls Tryz.prog 31 #[.map mb] w fun e w' => e = .returned (.func (.func 54) #[] #[.pointer (some ⟨w.heap.size, 0, none⟩)]) ∧ w' = w.alloc (.cells #[.map mb] 31) :=
  callsIn_wide.1 (Tryz.maps_Keys_31 mb w)

/-- An amount's text. -/
def txC (c : Int) : ByteArray := ⟨(textC c).toArray⟩
def txI (n : Int) : ByteArray := ⟨(Lib.itoa n).toArray⟩
/-- Words, and a new line. -/
def lnG (s : ByteArray) (l : List ByteArray) : ByteArray := putG 0 s l ++ ⟨#[10]⟩
theorem lnG_size (s : ByteArray) (l : List ByteArray) : s.size ≤ (putG 0 s l).size ∧ (putG 0 s l).size < (lnG s l).size := by
  refine ⟨putG_size _ _ _, ?_⟩
  unfold lnG
  rw [ByteArray.size_append]
  show _ < _ + 1
  omega
/-- Lines of amounts, by their codes. -/
def txB (wd : ByteArray) (m : Ass ByteArray Int) : ByteArray → List ByteArray → ByteArray
  | s, [] => s
  | s, k :: r => txB wd m (if g0 m k ≠ 0 then lnG s [wd, k, txC (g0 m k)] else s) r
theorem txB_size (wd : ByteArray) (m : Ass ByteArray Int) : ∀ (l : List ByteArray) (s : ByteArray), s.size ≤ (txB wd m s l).size
  | [], _ => Nat.le_refl _
  | k :: r, s => by
    unfold txB
    refine Nat.le_trans ?_ (txB_size wd m r _)
    split
    · have := lnG_size s [wd, k, txC (g0 m k)]; omega
    · exact Nat.le_refl _
def wSoc : ByteArray := ⟨#[115, 111, 99, 105, 97, 108]⟩
def wBef : ByteArray := ⟨#[98, 101, 102, 111, 114, 101]⟩
def wOrd : ByteArray := ⟨#[111, 114, 100, 101, 114]⟩
def wLas : ByteArray := ⟨#[108, 97, 115, 116]⟩
def txS (m : Ass ByteArray S4) : ByteArray → List ByteArray → ByteArray
  | s, [] => s
  | s, k :: r => txS m (if g4 m k ≠ (0, 0, 0, 0) then lnG s [wSoc, k, txC (g4 m k).1, txC (g4 m k).2.1, txC (g4 m k).2.2.1, txC (g4 m k).2.2.2] else s) r
theorem txS_size (m : Ass ByteArray S4) : ∀ (l : List ByteArray) (s : ByteArray), s.size ≤ (txS m s l).size
  | [], _ => Nat.le_refl _
  | k :: r, s => by
    unfold txS
    refine Nat.le_trans ?_ (txS_size m r _)
    split
    · have := lnG_size s [wSoc, k, txC (g4 m k).1, txC (g4 m k).2.1, txC (g4 m k).2.2.1, txC (g4 m k).2.2.2]; omega
    · exact Nat.le_refl _
def tx0 (S : Ste) : ByteArray := lnG ByteArray.empty [wLas, txI S.y, txI S.i, txI S.o]
def tx1 (S : Ste) : ByteArray := txB wBef S.be (tx0 S) (keyB S.be)
def tx2 (S : Ste) : ByteArray := txS S.so (tx1 S) (keyB S.so)
def tx3 (S : Ste) : ByteArray := if S.tb ≠ 0 ∨ S.tt ≠ 0 then lnG (tx2 S) [taxS, txC S.tb, txC S.tt] else tx2 S
/-- The text of a state that has months. -/
def txM1 (S : Ste) : ByteArray := txB wOrd S.od (tx3 S) (keyB S.od)
/-- The text of a state. -/
def txM (S : Ste) : ByteArray := if S.i = 0 then ByteArray.empty else txM1 S
theorem tx_sizes (S : Ste) : (tx0 S).size ≤ (tx1 S).size ∧ (tx1 S).size ≤ (tx2 S).size ∧ (tx2 S).size ≤ (tx3 S).size ∧ (tx3 S).size ≤ (txM1 S).size := by
  refine ⟨txB_size _ _ _ _, txS_size _ _ _, ?_, txB_size _ _ _ _⟩
  unfold tx3
  split
  · have := lnG_size (tx2 S) [taxS, txC S.tb, txC S.tt]; omega
  · exact Nat.le_refl _
end Go.Proofs.YtgepbkldgnjpfaaGreatDoor

/- year: Resume and Fold, in plain; months and slips in memory. -/
namespace Go.Proofs.YtgepbkldgnjpfaaGreatDoor
open Go.RowKit Go.Sort Go.BigFrame

/-- A slip: year, index, lines. -/
abbrev Slp := Int × Int × List Li
/-- Months one behind the other. -/
def resGo (S0 : Ste) : Ste → List Slp → List Mon → List Slp × Ste × Int
  | now, out, [] => (out, now, 0)
  | now, out, m :: r => if (stepM now m).2.2 ≠ 0 then ([], S0, (stepM now m).2.2) else resGo S0 (stepM now m).1 (out ++ [(stepM now m).2.1]) r
def resM (S0 : Ste) (l : List Mon) : List Slp × Ste × Int := if 4096 < l.length then ([], S0, 5) else resGo S0 S0 [] l
def foldM (l : List Mon) : List Slp × Ste × Int := resM Ste.none l
/-- Months behind months: what Resume of the one end gives. -/
theorem resGo_append (S0 : Ste) : ∀ (l r : List Mon) (now : Ste) (out : List Slp), (resGo S0 now out l).2.2 = 0 → resGo S0 now out (l ++ r) = resGo S0 (resGo S0 now out l).2.1 (resGo S0 now out l).1 r
  | [], r, now, out, _ => rfl
  | m :: l, r, now, out, h => by
    unfold resGo at h
    show resGo S0 now out (m :: (l ++ r)) = _
    by_cases h0 : (stepM now m).2.2 ≠ 0
    · rw [if_pos h0] at h
      exact absurd h h0
    · rw [if_neg h0] at h
      have e1 : resGo S0 now out (m :: (l ++ r)) = resGo S0 (stepM now m).1 (out ++ [(stepM now m).2.1]) (l ++ r) := if_neg h0
      have e2 : resGo S0 now out (m :: l) = resGo S0 (stepM now m).1 (out ++ [(stepM now m).2.1]) l := if_neg h0
      rw [e1, e2]
      exact resGo_append S0 l r _ _ h
/-- A month's cells in a row of months. -/
def encMo (p : Mon × MoA) : List Value := (moC p.1 p.2).toList
theorem encMo_len (p : Mon × MoA) : (encMo p).length = 12 := rfl
/-- A row of months, each with its own rows. -/
def SlMo (w : World) (A : Option Addr) (l : List (Mon × MoA)) : Prop := Sl encMo 12 w w.heap.size A l ∧ ∀ p ∈ l, MoOk p.1 p.2 w
theorem SlMo.below {w w' : World} {A : Option Addr} {l : List (Mon × MoA)} (h : SlMo w A l) (hb : Below w.heap.size w w') : SlMo w' A l := ⟨h.1.below hb, fun p hp => (h.2 p hp).below hb⟩
/-- A slip's cells. -/
def encSl (p : Slp × (Option Addr × Nat)) : List Value := [.int .i64 p.1.1, .int .i64 p.1.2.1, .slice p.2.1 p.1.2.2.length p.2.2]
theorem encSl_len (p : Slp × (Option Addr × Nat)) : (encSl p).length = 3 := rfl
theorem encSl_one (p : Slp × (Option Addr × Nat)) : ∀ u ∈ encSl p, u.oneCell' = true := by
  intro u hu
  simp only [encSl, List.mem_cons, List.not_mem_nil, or_false] at hu
  rcases hu with rfl | rfl | rfl <;> rfl
theorem slInfo : (Tryz.prog.info? 41).map (fun i => (i.zero, i.size, i.bytes)) = some (some (.agg #[.int .i64 0, .int .i64 0, .slice none 0 0]), 3, 40) := by kernel_rfl
/-- Slips in memory, each with its own lines. -/
def OwnSl (B : Nat) (v : Value) (l : List (Slp × (Option Addr × Nat))) (w : World) : Prop := Own encSl 3 41 B v l w ∧ ∀ p ∈ l, Own encLi 3 44 B (.slice p.2.1 p.1.2.2.length p.2.2) p.1.2.2 w
section
variable {B B' a b : Nat} {v v' : Value} {l : List (Slp × (Option Addr × Nat))} {w w' : World}
theorem OwnSl.nil : OwnSl B (.slice none 0 0) [] w := ⟨Own.nil _, fun _ h => absurd h (by simp)⟩
theorem OwnSl.below (h : OwnSl B v l w) (hb : Below w.heap.size w w') : OwnSl B v l w' :=
  have hg : w.grownBy w' none := ⟨hb.os, hb.tape, hb.output, hb.size, fun i hi _ => hb.block i hi⟩
  ⟨h.1.none_ hg, fun p hp => (h.2 p hp).none_ hg⟩
theorem OwnSl.kep (h : OwnSl B v l w) (hk : Kep a b w w') (ha : a < B) (hb : b < B) : OwnSl B v l w' := ⟨own_kep h.1 hk ha hb, fun p hp => own_kep (h.2 p hp) hk ha hb⟩
theorem OwnSl.low (h : OwnSl B v l w) (hB : B' ≤ B) : OwnSl B' v l w := ⟨own_low h.1 hB, fun p hp => own_low (h.2 p hp) hB⟩
/-- A row of slips, and a row of lines: apart. -/
theorem slApart {u : Value} {k : List Li} {B2 : Nat} (h : Own encSl 3 41 B v l w) (hu : Own encLi 3 44 B2 u k w) : u.ownBlock = none ∨ u.ownBlock ≠ v.ownBlock := by
  rcases h.2 with ⟨h1, _⟩ | ⟨g, cap, cur, h1, _, h3, _⟩
  · subst h1
    rcases hu.2 with ⟨h4, _⟩ | ⟨g2, cap2, cur2, h4, _⟩
    · subst h4; exact .inl rfl
    · subst h4; exact .inr (by simp [Value.ownBlock])
  · subst h1
    exact .inr (Ne.symm (hu.ne_ (g := g) (cs := cur) h3 (by decide)))
theorem OwnSl.snoc (h : OwnSl B v l w) {x : Slp} {A : Option Addr} {cap : Nat} (hx : Own encLi 3 44 B (.slice A x.2.2.length cap) x.2.2 w) (hn : Own encSl 3 41 B v' (l ++ [(x, A, cap)]) w') (hg : w.grownBy w' v.ownBlock) : OwnSl B v' (l ++ [(x, A, cap)]) w' := by
  refine ⟨hn, fun p hp => ?_⟩
  rcases List.mem_append.1 hp with hp | hp
  · exact (h.2 p hp).kept hg (slApart h.1 (h.2 p hp))
  · rw [List.mem_singleton] at hp
    subst hp
    exact hx.kept hg (slApart h.1 hx)
end
end Go.Proofs.YtgepbkldgnjpfaaGreatDoor
