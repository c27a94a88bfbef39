/- Contracts of slices.Sorted(maps.Keys) at this dump, laid by the kit's tool. -/
import Derived.Shelf.SlIter.Nil
import Derived.Shelf.SortM.Plain
import Derived.Shelf.SortM.SortNone
import Derived.Ground.GgzProg
import Derived.Ground.SlgmProg
import Derived.Test.YtheaacliomfkoaaGreatDoorProg
namespace Go.Proofs
open Go.RowKit Go.Maps Go.Sort Go.Shelf

-- maps.Keys[map[string]wagebook/api.Cents,string,wagebook/api.Cents] (function 39; its iterator 86) · slices.Sorted[string] (38) · slices.Sort[[]string,string] (85) · the map's type 25, the keys' 9
shelf_lay_g SlLaysZ.n7 Ggz 7 at Tryz 39 as Tryz.keys39
shelf_lay_g SlLaysZ.n6 Ggz 6 at Tryz 38 as Tryz.sorted38
shelf_lay_g SlLaysM.n6 Slgm 6 at Tryz 85 as Tryz.sort85

/-- slices.Sort's two contracts at this dump, at the fence that asks nothing. -/
theorem Tryz.sorts38 (m : Nat) : AnyZ.SortsIn Tryz.prog Tryz.sorted38_ren Fence.wide m :=
  ⟨fun blk off cap ss W hH hblk hsz => callsIn_wide.2 (AnyM.slices_Sort_string Tryz.sort85 blk off cap ss W hH hblk hsz),
   fun p cap W => callsIn_wide.2 (AnyM.slices_Sort_string_none Tryz.sort85 p cap W)⟩

/-- **maps.Keys[map[string]wagebook/api.Cents,string,wagebook/api.Cents], at whatever map, the nil one too:** a function value over ONE NEW BLOCK, which holds the map. -/
theorem Tryz.maps_Keys_39 (mb : Option Nat) (W : World) : CallsIn Fence.wide 5 Tryz.prog 39 #[.map mb] W fun e w' => e = .returned (.func (.func 86) #[] #[.pointer (some ⟨W.heap.size, 0, none⟩)]) ∧ w' = W.alloc (.cells #[.map mb] 25) :=
  AnyZ.keys_in Tryz.keys39 Fence.wide 5 trivial rfl mb W

set_option maxHeartbeats 1000000 in
/-- **slices.Sorted[string] AT WHAT maps.Keys[map[string]wagebook/api.Cents,string,wagebook/api.Cents] HANDED BACK FOR A MAP THAT IS NOT nil** ('w': the world AHEAD of maps.Keys' call): A NEW SLICE THAT HOLDS THE MAP's KEYS, SORTED; nil just where it has none; nothing that lay before has turned. -/
theorem Tryz.slices_Sorted_keys_38_39 {H : Type} (b nn : Nat) (D0 : DataW H) (R : Value → Option (DataW H × List MemPlace)) (w : World) (hown : w.ownsMap Tryz.prog 9 R b nn D0) (hmax : Maps.size D0 ≤ maxLen) (hbytes : Maps.size D0 * 16 ≤ 140737488355328) :
    CallsIn Fence.wide 5 Tryz.prog 38 #[.func (.func 86) #[] #[.pointer (some ⟨w.heap.size, 0, none⟩)]] (w.alloc (.cells #[.map (some b)] 25)) fun e w' => ∃ (v : Value) (ss : List (List UInt8)), e = .returned v ∧ ss.Perm (strKeys D0) ∧
      w'.ownsRow (w.alloc (.cells #[.map (some b)] 25)).heap.size 9 1 v ss.length ((ss.mergeSort (fun x y => decide (x ≤ y))).map encStr) ∧ (v = .slice none 0 0 ↔ ss = []) ∧ Below (w.alloc (.cells #[.map (some b)] 25)).heap.size (w.alloc (.cells #[.map (some b)] 25)) w' := by
  have hbl := hown.lt
  have hseq : SeqGives Fence.wide 2 Tryz.prog 86 #[.pointer (some ⟨w.heap.size, 0, none⟩)] encStr (fun ss => ss.Perm (strKeys D0)) (Maps.size D0) (w.alloc (.cells #[.map (some b)] 25)) :=
    AnyZ.keys_gives (ρ := Tryz.keys39_ren) { Tryz.keys39 with } Fence.wide _ trivial rfl (by omega) w.heap.size b nn D0 _ (by simp) (by simp) (by
      obtain ⟨es, clock, hb, Ft, hs, hD⟩ := hown
      exact ⟨es, clock, (Below.heap_alloc _ _ b hbl).trans hb, Ft, hs, hD⟩)
  exact AnyZ.sorted_in Tryz.sorted38 Fence.wide 5 trivial trivial trivial trivial rfl (by omega) (Tryz.sorts38 _) (enters_of Tryz.func85 (by kernel_rfl) rfl) 86 #[.pointer (some ⟨w.heap.size, 0, none⟩)] trivial (enters_of Tryz.func86 (by kernel_rfl) rfl) _ _ hmax hbytes _ hseq

set_option maxHeartbeats 1000000 in
/-- **.. AND FOR THE nil MAP: nil.** -/
theorem Tryz.slices_Sorted_keys_nil_38_39 (w : World) :
    CallsIn Fence.wide 5 Tryz.prog 38 #[.func (.func 86) #[] #[.pointer (some ⟨w.heap.size, 0, none⟩)]] (w.alloc (.cells #[.map none] 25)) fun e w' => ∃ (v : Value) (ss : List (List UInt8)), e = .returned v ∧ ss = [] ∧
      w'.ownsRow (w.alloc (.cells #[.map none] 25)).heap.size 9 1 v ss.length ((ss.mergeSort (fun x y => decide (x ≤ y))).map encStr) ∧ (v = .slice none 0 0 ↔ ss = []) ∧ Below (w.alloc (.cells #[.map none] 25)).heap.size (w.alloc (.cells #[.map none] 25)) w' := by
  have hseq : SeqGives Fence.wide 2 Tryz.prog 86 #[.pointer (some ⟨w.heap.size, 0, none⟩)] encStr (fun ss : List (List UInt8) => ss = []) 0 (w.alloc (.cells #[.map none] 25)) :=
    AnyZ.keys_gives_nil (ρ := Tryz.keys39_ren) { Tryz.keys39 with } Fence.wide _ trivial rfl w.heap.size _ (by simp) (by simp)
  exact AnyZ.sorted_in Tryz.sorted38 Fence.wide 5 trivial trivial trivial trivial rfl (by omega) (Tryz.sorts38 _) (enters_of Tryz.func85 (by kernel_rfl) rfl) 86 #[.pointer (some ⟨w.heap.size, 0, none⟩)] trivial (enters_of Tryz.func86 (by kernel_rfl) rfl) _ 0 (Nat.zero_le _) (by omega) _ hseq

-- THE CALLER's WALK over 'slices.Sorted(maps.Keys(m))' (inside '(callsIn_wide (n := 6)).1'; 'have hfK : Fence.wide.fn 39 := trivial', 'have hfS : Fence.wide.fn 38 := trivial' ahead): THE TWO ARMS TO PASTE:
--   gi_wp2_with (first
--     | (gi_at_call 39; refine (Tryz.maps_Keys_39 _ _).mono ?_; rintro e w' ⟨rfl, rfl⟩)
--     | (gi_at_call 38; refine (Tryz.slices_Sorted_keys_38_39 b nn D0 R w hown hmax hbytes).mono ?_; rintro e w' ⟨v, ss, rfl, hS, hrow, hnil, hb⟩))

-- maps.Keys[map[string]wagebook/social.Sums,string,wagebook/social.Sums] (function 41; its iterator 88) · slices.Sorted[string] (38) · slices.Sort[[]string,string] (85) · the map's type 26, the keys' 9
shelf_lay_g SlLaysZ.n7 Ggz 7 at Tryz 41 as Tryz.keys41

/-- **maps.Keys[map[string]wagebook/social.Sums,string,wagebook/social.Sums], at whatever map, the nil one too:** a function value over ONE NEW BLOCK, which holds the map. -/
theorem Tryz.maps_Keys_41 (mb : Option Nat) (W : World) : CallsIn Fence.wide 5 Tryz.prog 41 #[.map mb] W fun e w' => e = .returned (.func (.func 88) #[] #[.pointer (some ⟨W.heap.size, 0, none⟩)]) ∧ w' = W.alloc (.cells #[.map mb] 26) :=
  AnyZ.keys_in Tryz.keys41 Fence.wide 5 trivial rfl mb W

set_option maxHeartbeats 1000000 in
/-- **slices.Sorted[string] AT WHAT maps.Keys[map[string]wagebook/social.Sums,string,wagebook/social.Sums] HANDED BACK FOR A MAP THAT IS NOT nil** ('w': the world AHEAD of maps.Keys' call): A NEW SLICE THAT HOLDS THE MAP's KEYS, SORTED; nil just where it has none; nothing that lay before has turned. -/
theorem Tryz.slices_Sorted_keys_38_41 {H : Type} (b nn : Nat) (D0 : DataW H) (R : Value → Option (DataW H × List MemPlace)) (w : World) (hown : w.ownsMap Tryz.prog 9 R b nn D0) (hmax : Maps.size D0 ≤ maxLen) (hbytes : Maps.size D0 * 16 ≤ 140737488355328) :
    CallsIn Fence.wide 5 Tryz.prog 38 #[.func (.func 88) #[] #[.pointer (some ⟨w.heap.size, 0, none⟩)]] (w.alloc (.cells #[.map (some b)] 26)) fun e w' => ∃ (v : Value) (ss : List (List UInt8)), e = .returned v ∧ ss.Perm (strKeys D0) ∧
      w'.ownsRow (w.alloc (.cells #[.map (some b)] 26)).heap.size 9 1 v ss.length ((ss.mergeSort (fun x y => decide (x ≤ y))).map encStr) ∧ (v = .slice none 0 0 ↔ ss = []) ∧ Below (w.alloc (.cells #[.map (some b)] 26)).heap.size (w.alloc (.cells #[.map (some b)] 26)) w' := by
  have hbl := hown.lt
  have hseq : SeqGives Fence.wide 2 Tryz.prog 88 #[.pointer (some ⟨w.heap.size, 0, none⟩)] encStr (fun ss => ss.Perm (strKeys D0)) (Maps.size D0) (w.alloc (.cells #[.map (some b)] 26)) :=
    AnyZ.keys_gives (ρ := Tryz.keys41_ren) { Tryz.keys41 with } Fence.wide _ trivial rfl (by omega) w.heap.size b nn D0 _ (by simp) (by simp) (by
      obtain ⟨es, clock, hb, Ft, hs, hD⟩ := hown
      exact ⟨es, clock, (Below.heap_alloc _ _ b hbl).trans hb, Ft, hs, hD⟩)
  exact AnyZ.sorted_in Tryz.sorted38 Fence.wide 5 trivial trivial trivial trivial rfl (by omega) (Tryz.sorts38 _) (enters_of Tryz.func85 (by kernel_rfl) rfl) 88 #[.pointer (some ⟨w.heap.size, 0, none⟩)] trivial (enters_of Tryz.func88 (by kernel_rfl) rfl) _ _ hmax hbytes _ hseq

set_option maxHeartbeats 1000000 in
/-- **.. AND FOR THE nil MAP: nil.** -/
theorem Tryz.slices_Sorted_keys_nil_38_41 (w : World) :
    CallsIn Fence.wide 5 Tryz.prog 38 #[.func (.func 88) #[] #[.pointer (some ⟨w.heap.size, 0, none⟩)]] (w.alloc (.cells #[.map none] 26)) fun e w' => ∃ (v : Value) (ss : List (List UInt8)), e = .returned v ∧ ss = [] ∧
      w'.ownsRow (w.alloc (.cells #[.map none] 26)).heap.size 9 1 v ss.length ((ss.mergeSort (fun x y => decide (x ≤ y))).map encStr) ∧ (v = .slice none 0 0 ↔ ss = []) ∧ Below (w.alloc (.cells #[.map none] 26)).heap.size (w.alloc (.cells #[.map none] 26)) w' := by
  have hseq : SeqGives Fence.wide 2 Tryz.prog 88 #[.pointer (some ⟨w.heap.size, 0, none⟩)] encStr (fun ss : List (List UInt8) => ss = []) 0 (w.alloc (.cells #[.map none] 26)) :=
    AnyZ.keys_gives_nil (ρ := Tryz.keys41_ren) { Tryz.keys41 with } Fence.wide _ trivial rfl w.heap.size _ (by simp) (by simp)
  exact AnyZ.sorted_in Tryz.sorted38 Fence.wide 5 trivial trivial trivial trivial rfl (by omega) (Tryz.sorts38 _) (enters_of Tryz.func85 (by kernel_rfl) rfl) 88 #[.pointer (some ⟨w.heap.size, 0, none⟩)] trivial (enters_of Tryz.func88 (by kernel_rfl) rfl) _ 0 (Nat.zero_le _) (by omega) _ hseq

-- THE CALLER's WALK over 'slices.Sorted(maps.Keys(m))' (inside '(callsIn_wide (n := 6)).1'; 'have hfK : Fence.wide.fn 41 := trivial', 'have hfS : Fence.wide.fn 38 := trivial' ahead): THE TWO ARMS TO PASTE:
--   gi_wp2_with (first
--     | (gi_at_call 41; refine (Tryz.maps_Keys_41 _ _).mono ?_; rintro e w' ⟨rfl, rfl⟩)
--     | (gi_at_call 38; refine (Tryz.slices_Sorted_keys_38_41 b nn D0 R w hown hmax hbytes).mono ?_; rintro e w' ⟨v, ss, rfl, hS, hrow, hnil, hb⟩))

-- maps.Keys[wagebook/attach.Paid,string,wagebook/api.Cents] (function 42; its iterator 89) · slices.Sorted[string] (38) · slices.Sort[[]string,string] (85) · the map's type 30, the keys' 9
shelf_lay_g SlLaysZ.n7 Ggz 7 at Tryz 42 as Tryz.keys42

/-- **maps.Keys[wagebook/attach.Paid,string,wagebook/api.Cents], at whatever map, the nil one too:** a function value over ONE NEW BLOCK, which holds the map. -/
theorem Tryz.maps_Keys_42 (mb : Option Nat) (W : World) : CallsIn Fence.wide 5 Tryz.prog 42 #[.map mb] W fun e w' => e = .returned (.func (.func 89) #[] #[.pointer (some ⟨W.heap.size, 0, none⟩)]) ∧ w' = W.alloc (.cells #[.map mb] 30) :=
  AnyZ.keys_in Tryz.keys42 Fence.wide 5 trivial rfl mb W

set_option maxHeartbeats 1000000 in
/-- **slices.Sorted[string] AT WHAT maps.Keys[wagebook/attach.Paid,string,wagebook/api.Cents] HANDED BACK FOR A MAP THAT IS NOT nil** ('w': the world AHEAD of maps.Keys' call): A NEW SLICE THAT HOLDS THE MAP's KEYS, SORTED; nil just where it has none; nothing that lay before has turned. -/
theorem Tryz.slices_Sorted_keys_38_42 {H : Type} (b nn : Nat) (D0 : DataW H) (R : Value → Option (DataW H × List MemPlace)) (w : World) (hown : w.ownsMap Tryz.prog 9 R b nn D0) (hmax : Maps.size D0 ≤ maxLen) (hbytes : Maps.size D0 * 16 ≤ 140737488355328) :
    CallsIn Fence.wide 5 Tryz.prog 38 #[.func (.func 89) #[] #[.pointer (some ⟨w.heap.size, 0, none⟩)]] (w.alloc (.cells #[.map (some b)] 30)) fun e w' => ∃ (v : Value) (ss : List (List UInt8)), e = .returned v ∧ ss.Perm (strKeys D0) ∧
      w'.ownsRow (w.alloc (.cells #[.map (some b)] 30)).heap.size 9 1 v ss.length ((ss.mergeSort (fun x y => decide (x ≤ y))).map encStr) ∧ (v = .slice none 0 0 ↔ ss = []) ∧ Below (w.alloc (.cells #[.map (some b)] 30)).heap.size (w.alloc (.cells #[.map (some b)] 30)) w' := by
  have hbl := hown.lt
  have hseq : SeqGives Fence.wide 2 Tryz.prog 89 #[.pointer (some ⟨w.heap.size, 0, none⟩)] encStr (fun ss => ss.Perm (strKeys D0)) (Maps.size D0) (w.alloc (.cells #[.map (some b)] 30)) :=
    AnyZ.keys_gives (ρ := Tryz.keys42_ren) { Tryz.keys42 with } Fence.wide _ trivial rfl (by omega) w.heap.size b nn D0 _ (by simp) (by simp) (by
      obtain ⟨es, clock, hb, Ft, hs, hD⟩ := hown
      exact ⟨es, clock, (Below.heap_alloc _ _ b hbl).trans hb, Ft, hs, hD⟩)
  exact AnyZ.sorted_in Tryz.sorted38 Fence.wide 5 trivial trivial trivial trivial rfl (by omega) (Tryz.sorts38 _) (enters_of Tryz.func85 (by kernel_rfl) rfl) 89 #[.pointer (some ⟨w.heap.size, 0, none⟩)] trivial (enters_of Tryz.func89 (by kernel_rfl) rfl) _ _ hmax hbytes _ hseq

set_option maxHeartbeats 1000000 in
/-- **.. AND FOR THE nil MAP: nil.** -/
theorem Tryz.slices_Sorted_keys_nil_38_42 (w : World) :
    CallsIn Fence.wide 5 Tryz.prog 38 #[.func (.func 89) #[] #[.pointer (some ⟨w.heap.size, 0, none⟩)]] (w.alloc (.cells #[.map none] 30)) fun e w' => ∃ (v : Value) (ss : List (List UInt8)), e = .returned v ∧ ss = [] ∧
      w'.ownsRow (w.alloc (.cells #[.map none] 30)).heap.size 9 1 v ss.length ((ss.mergeSort (fun x y => decide (x ≤ y))).map encStr) ∧ (v = .slice none 0 0 ↔ ss = []) ∧ Below (w.alloc (.cells #[.map none] 30)).heap.size (w.alloc (.cells #[.map none] 30)) w' := by
  have hseq : SeqGives Fence.wide 2 Tryz.prog 89 #[.pointer (some ⟨w.heap.size, 0, none⟩)] encStr (fun ss : List (List UInt8) => ss = []) 0 (w.alloc (.cells #[.map none] 30)) :=
    AnyZ.keys_gives_nil (ρ := Tryz.keys42_ren) { Tryz.keys42 with } Fence.wide _ trivial rfl w.heap.size _ (by simp) (by simp)
  exact AnyZ.sorted_in Tryz.sorted38 Fence.wide 5 trivial trivial trivial trivial rfl (by omega) (Tryz.sorts38 _) (enters_of Tryz.func85 (by kernel_rfl) rfl) 89 #[.pointer (some ⟨w.heap.size, 0, none⟩)] trivial (enters_of Tryz.func89 (by kernel_rfl) rfl) _ 0 (Nat.zero_le _) (by omega) _ hseq

-- THE CALLER's WALK over 'slices.Sorted(maps.Keys(m))' (inside '(callsIn_wide (n := 6)).1'; 'have hfK : Fence.wide.fn 42 := trivial', 'have hfS : Fence.wide.fn 38 := trivial' ahead): THE TWO ARMS TO PASTE:
--   gi_wp2_with (first
--     | (gi_at_call 42; refine (Tryz.maps_Keys_42 _ _).mono ?_; rintro e w' ⟨rfl, rfl⟩)
--     | (gi_at_call 38; refine (Tryz.slices_Sorted_keys_38_42 b nn D0 R w hown hmax hbytes).mono ?_; rintro e w' ⟨v, ss, rfl, hS, hrow, hnil, hb⟩))


end Go.Proofs
