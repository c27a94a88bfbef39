import Derived.Test.YtdpejolpjhlibaaGreatDoorAwk
import Derived.Test.YtdpejolpjhlibaaGreatDoorIm9
/- Is a store the document's list? Facts as the document has them. -/
namespace Go.Proofs.YtdpejolpjhlibaaGreatDoor
open Go.RowKit Go.Sort

theorem allK_all (L : List Fa) : ∀ k, k ≤ L.length → (allK L k).length = k ∧ ∀ i f, i < k → L[i]? = some f → (allK L k)[i]? = some (((i : Nat) : Int) + 1, f) := by
  intro k
  induction k with
  | zero => exact fun _ => ⟨rfl, fun i f h => absurd h (by omega)⟩
  | succ k ih =>
    intro hk
    obtain ⟨h1, h2⟩ := ih (by omega)
    obtain ⟨f, hf⟩ : ∃ f, L[k]? = some f := ⟨_, List.getElem?_eq_getElem (by omega)⟩
    rw [allK_succ hf]
    refine ⟨by simp [h1], fun i g hi hg => ?_⟩
    rcases Nat.lt_succ_iff_lt_or_eq.1 hi with h | h
    · rw [List.getElem?_append_left (by omega)]
      exact h2 i g h hg
    · subst h
      rw [hf] at hg
      injection hg with hg
      subst hg
      rw [List.getElem?_append_right (by omega), h1, Nat.sub_self]
      rfl
theorem eqF_self (f : Fa) : eqF f f = true := by simp [eqF, sameF]
set_option maxHeartbeats 2000000 in
set_option maxRecDepth 100000 in
theorem run_neF (f : Fa) (w : World) : (binOp .neq 37 (.agg (FA f)) (.agg (FA f))).run Tryz.prog w = .ok (.bool false) w := by
  unfold FA
  go_simp

set_option maxHeartbeats 4000000 in
set_option maxRecDepth 100000 in
theorem la_is (L : List Fa) (A B : Option Addr) (ca cb : Nat) (w : World) (hn : L.length ≤ 4096) (hL : SlF w A L) (hM : SlF w B L) :
    Calls Tryz.prog 23 #[.agg #[.slice A L.length ca], .slice B L.length cb] w fun e w' => e = .returned (.bool true) ∧ Below w.heap.size w w' := by
  obtain ⟨sb, hsb⟩ : ∃ x, w.heap.size = x := ⟨_, rfl⟩
  obtain ⟨w2, hw2⟩ : ∃ x, w.alloc (.cells #[.slice A L.length ca] 26) = x := ⟨_, rfl⟩
  have HB2 : Hid (Below w.heap.size w w2) := Lib.hid (by rw [← hw2]; exact bAlloc _ _)
  have HK2 : Hid (Bk sb 26 #[.slice A L.length ca] w2) := Lib.hid (by rw [← hw2, ← hsb]; exact Bk.new _ _ _)
  have HA2 : Hid (SlF w2 A L) := Lib.hid (hL.below HB2.out)
  have HM2 : Hid (SlF w2 B L) := Lib.hid (hM.below HB2.out)
  have HALL := Lib.hid (st_All L A ca w2 hn HA2.out)
  have HLEN : Hid (∀ W, Calls Tryz.prog 21 #[.agg #[.slice A L.length ca]] W fun e w' => e = .returned (.int .i64 L.length) ∧ Below W.heap.size W w') := Lib.hid fun W => st_Len A L.length ca W
  clear hL hM
  go_enter Tryz.func23, Tryz.ntmps23
  go_upto_region 1 with fail
  clear hsb hw2
  have S0 : w2.cell? ⟨sb, 0, none⟩ = some (.slice A L.length ca) := HK2.out.cell 0
  go_wp2_with fail
  refine HALL.out.mono ?_
  rintro e w3 ⟨⟨v, rfl, ho⟩, hb3⟩
  obtain ⟨D, cd, rfl, hcd, hsd⟩ := ho.sl
  have HB3 : Hid (Below w.heap.size w w3) := Lib.hid (bTrans HB2.out hb3)
  have HK3 : Hid (Bk sb 26 #[.slice A L.length ca] w3) := Lib.hid ((hb3.block sb HK2.out.lt).trans HK2.out)
  have HM3 : Hid (SlF w3 B L) := Lib.hid (HM2.out.below hb3)
  have hak := allK_all L L.length (Nat.le_refl _)
  have HGET := Lib.hid hak.2
  have hal := hak.1
  have HD3 := Lib.hid hsd
  generalize allK L L.length = KL at *
  rw [hal]
  clear S0 ho hb3 hcd hsd hak HALL
  have S0 : w3.cell? ⟨sb, 0, none⟩ = some (.slice A L.length ca) := HK3.out.cell 0
  go_wp2_with fail
  refine (HLEN.out _).mono ?_
  rintro e w4 ⟨rfl, hb4⟩
  have HB4 : Hid (Below w.heap.size w w4) := Lib.hid (bTrans HB3.out hb4)
  have HM4 : Hid (SlF w4 B L) := Lib.hid (HM3.out.below hb4)
  have HD4 : Hid (SlK w4 D KL) := Lib.hid (HD3.out.below hb4)
  have HAL := Lib.hid hal
  clear S0 hb4 hal
  go_wp2
  go_loopw [24] (fun iv wr => ∃ k : Nat, k ≤ L.length ∧ iv = .int .i64 k ∧ Hid (Below w4.heap.size w4 wr)) (fun iv _ => L.length - (intOf iv).toNat)
  case atStart => exact ⟨0, Nat.zero_le _, rfl, Lib.hid (Below.refl _ _)⟩
  case round =>
    obtain ⟨k, hk, rfl, HBR⟩ := hrel
    by_cases hlt : k < L.length
    · obtain ⟨f, hx⟩ : ∃ x, L[k]? = some x := ⟨_, List.getElem?_eq_getElem hlt⟩
      have hkx := HGET.out k f hlt hx
      obtain ⟨b, off, rfl, hbl, hat⟩ := SlF.open_ HM4.out (by intro h; simp [h] at hlt)
      obtain ⟨b2, off2, rfl, hbl2, hat2⟩ := HD4.out (by intro h; rw [h] at hkx; simp at hkx)
      have HC : Hid (∀ W, Below w4.heap.size w4 W → (∀ j u, (encK ((k : Int) + 1, f))[j]? = some u → W.cell? ⟨b2, off2 + k * 9 + j, none⟩ = some u) ∧ At8 W b (off + k * 8) f) := Lib.hid fun W hW => ⟨fun j u hu => bCell hW (hat2 k _ hkx j u hu), (hat k f hx).below hW⟩
      have G0 := (HC.out _ HBR.out).1 0 _ rfl
      have G1 := (HC.out _ HBR.out).1 1 _ rfl
      have G2 := (HC.out _ HBR.out).1 2 _ rfl
      have G3 := (HC.out _ HBR.out).1 3 _ rfl
      have G4 := (HC.out _ HBR.out).1 4 _ rfl
      have G5 := (HC.out _ HBR.out).1 5 _ rfl
      have G6 := (HC.out _ HBR.out).1 6 _ rfl
      have G7 := (HC.out _ HBR.out).1 7 _ rfl
      have G8 := (HC.out _ HBR.out).1 8 _ rfl
      simp only [Nat.add_zero] at G0
      obtain ⟨fb, hfb⟩ : ∃ x, wr.heap.size = x := ⟨_, rfl⟩
      obtain ⟨w5, hw5⟩ : ∃ x, wr.alloc (.cells (encK ((k : Int) + 1, f)).toArray 60) = x := ⟨_, rfl⟩
      have HF5 : Hid (Bk fb 60 (encK ((k : Int) + 1, f)).toArray w5) := Lib.hid (by rw [← hw5, ← hfb]; exact Bk.new _ _ _)
      have HB5 : Hid (Below w4.heap.size w4 w5) := Lib.hid (by rw [← hw5]; exact bTrans HBR.out (bAlloc wr _))
      simp only [encK, encF] at hw5
      have HE5 := Lib.hid (And.intro hfb hw5)
      clear hat hat2 hx hkx hfb hw5
      go_upto_region 7 with fail
      rw [HE5.out.1, HE5.out.2]
      clear G0 G1 G2 G3 G4 G5 G6 G7 G8 HE5
      have F0 : w5.cell? ⟨fb, 0, none⟩ = some (.int .i64 ((k : Int) + 1)) := HF5.out.cell 0
      have F1 : w5.cell? ⟨fb, 1, none⟩ = some (.int .u32 f.id) := HF5.out.cell 1
      have F2 : w5.cell? ⟨fb, 2, none⟩ = some (.int .u32 f.pe) := HF5.out.cell 2
      have F3 : w5.cell? ⟨fb, 3, none⟩ = some (.int .i64 f.ki) := HF5.out.cell 3
      have F4 : w5.cell? ⟨fb, 4, none⟩ = some (.int .i64 f.fr) := HF5.out.cell 4
      have F5 : w5.cell? ⟨fb, 5, none⟩ = some (.int .i64 f.to) := HF5.out.cell 5
      have F6 : w5.cell? ⟨fb, 6, none⟩ = some (.string f.co) := HF5.out.cell 6
      have F7 : w5.cell? ⟨fb, 7, none⟩ = some (.int .i64 f.nu) := HF5.out.cell 7
      have F8 : w5.cell? ⟨fb, 8, none⟩ = some (.string f.tx) := HF5.out.cell 8
      obtain ⟨C0, C1, C2, C3, C4, C5, C6, C7⟩ := (HC.out _ HB5.out).2
      have hq : ∀ W : World, (binOp .neq 37 (.agg (FA f)) (.agg (FA f))).run Tryz.prog W = .ok (.bool false) W := run_neF f
      unfold FA at hq
      have hne : (((k : Int) + 1) != ((k : Int) + 1)) = false := by simp
      have hlt2 : (k : Int) < (L.length : Int) := by omega
      go_wp2_with fail
      go_quiet (fail)
      clear F0 F1 F2 F3 F4 F5 F6 F7 F8 C0 C1 C2 C3 C4 C5 C6 C7 hq
      go_wp2
      exact ⟨⟨k + 1, by omega, by go_num, Lib.hid (bTrans HB5.out (bDrewN _ _))⟩, by simp [intOf]; omega⟩
    · obtain rfl : k = L.length := by omega
      go_wp2
      go_ret
      exact ⟨rfl, bTrans HB4.out HBR.out⟩

set_option maxHeartbeats 4000000 in
set_option maxRecDepth 100000 in
theorem la_of (l : List Fa) (A : Option Addr) (ca : Nat) (w : World) (hn : l.length ≤ 1000) (hL : SlF w A l) :
    Calls Tryz.prog 25 #[.slice A l.length ca] w fun e w' => (∃ B cb, e = .returned (.slice B l.length cb) ∧ l.length ≤ cb ∧ SlF w' B l) ∧ Below w.heap.size w w' := by
  have HL := Lib.hid hL
  clear hL
  go_enter Tryz.func25, Tryz.ntmps25
  go_wp2
  go_loopw [3, 8] (fun ov iv wr => ∃ k : Nat, k ≤ l.length ∧ iv = .int .i64 k ∧ Hid (OwnR w.heap.size ov (l.take k) wr) ∧ Hid (Below w.heap.size w wr)) (fun _ iv _ => l.length - (intOf iv).toNat)
  case atStart => exact ⟨0, Nat.zero_le _, rfl, Lib.hid (Own.nil _), Lib.hid (Below.refl _ _)⟩
  case round =>
    obtain ⟨k, hk, rfl, HO, HBR⟩ := hrel
    by_cases hlt : k < l.length
    · obtain ⟨b, off, rfl, hbl, hat⟩ := SlF.open_ HL.out (by intro h; simp [h] at hlt)
      obtain ⟨f, hx⟩ : ∃ x, l[k]? = some x := ⟨_, List.getElem?_eq_getElem hlt⟩
      obtain ⟨C0, C1, C2, C3, C4, C5, C6, C7⟩ := (hat k f hx).below HBR.out
      obtain ⟨fb, hfb⟩ : ∃ x, wr.heap.size = x := ⟨_, rfl⟩
      obtain ⟨w4, hw4⟩ : ∃ x, wr.alloc (.cells (FA f) 31) = x := ⟨_, rfl⟩
      have HF4 : Hid (Bk fb 31 (FA f) w4) := Lib.hid (by rw [← hw4, ← hfb]; exact Bk.new _ _ _)
      have HB4 : Hid (Below w.heap.size w w4) := Lib.hid (by rw [← hw4]; exact bTrans HBR.out (bAlloc wr _))
      have HO4 : Hid (OwnR w.heap.size u3 (l.take k) w4) := Lib.hid (by rw [← hw4]; exact HO.out.alloc _)
      have HTK : Hid (l.take (k + 1) = l.take k ++ [f]) := Lib.hid (by rw [List.take_add_one, hx]; rfl)
      unfold FA at hw4
      have HE4 := Lib.hid (And.intro hfb hw4)
      clear hat hx hfb hw4
      go_upto_region 5 with fail
      rw [HE4.out.1, HE4.out.2]
      clear C0 C1 C2 C3 C4 C5 C6 C7
      have F0 : w4.cell? ⟨fb, 0, none⟩ = some (.int .u32 f.id) := HF4.out.cell 0
      have F1 : w4.cell? ⟨fb, 1, none⟩ = some (.int .u32 f.pe) := HF4.out.cell 1
      have F2 : w4.cell? ⟨fb, 2, none⟩ = some (.int .i64 f.ki) := HF4.out.cell 2
      have F3 : w4.cell? ⟨fb, 3, none⟩ = some (.int .i64 f.fr) := HF4.out.cell 3
      have F4 : w4.cell? ⟨fb, 4, none⟩ = some (.int .i64 f.to) := HF4.out.cell 4
      have F5 : w4.cell? ⟨fb, 5, none⟩ = some (.string f.co) := HF4.out.cell 5
      have F6 : w4.cell? ⟨fb, 6, none⟩ = some (.int .i64 f.nu) := HF4.out.cell 6
      have F7 : w4.cell? ⟨fb, 7, none⟩ = some (.string f.tx) := HF4.out.cell 7
      go_wp2_with (at_builtin; refine wp_app_many rfl _ _ rfl (v := u3) (l := l.take k) (m := [f]) (B := w.heap.size) rfl rfl rfl (HO4.out.alloc _) (slOne (Bk.new w4 _ _)) (by simp; omega) (bTrans HB4.out (bAlloc w4 _)).size ?_)
      intro v6 w6 ho6 hg6
      have HB6 : Hid (Below w.heap.size w w6) := Lib.hid (belowR (bTrans HB4.out (bAlloc w4 _)) (bTrans HB4.out (bAlloc w4 _)).size (HO4.out.alloc _) hg6)
      have HO6 : Hid (OwnR w.heap.size v6 (l.take (k + 1)) w6) := Lib.hid (by rw [HTK.out]; exact ho6)
      clear ho6 hg6 F0 F1 F2 F3 F4 F5 F6 F7
      go_wp2
      exact ⟨⟨k + 1, by omega, by go_num, HO6, HB6⟩, by simp [intOf]; omega⟩
    · obtain rfl : k = l.length := by omega
      have ho := HO.out
      rw [List.take_length] at ho
      obtain ⟨D, cd, rfl, hcd, hsd⟩ := ho.sl
      have HSD := Lib.hid hsd
      have HCD := Lib.hid hcd
      clear ho hsd hcd
      go_wp2
      go_ret
      exact ⟨⟨D, cd, rfl, HCD.out, HSD.out⟩, HBR.out⟩
end Go.Proofs.YtdpejolpjhlibaaGreatDoor
