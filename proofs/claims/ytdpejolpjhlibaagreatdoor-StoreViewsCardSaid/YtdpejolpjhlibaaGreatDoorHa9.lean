import Derived.Test.YtdpejolpjhlibaaGreatDoorFo9
/- Is a known fact there? Are known facts the same? -/
namespace Go.Proofs.YtdpejolpjhlibaaGreatDoor
open Go.RowKit Go.Sort

/-- Are two known facts the same? -/
def eqK (y x : Kn) : Bool := decide (y.1 = x.1) && eqF y.2 x.2
abbrev KA (n : Int) (f : Fa) : Array Value := #[.int .i64 n, .int .u32 f.id, .int .u32 f.pe, .int .i64 f.ki, .int .i64 f.fr, .int .i64 f.to, .string f.co, .int .i64 f.nu, .string f.tx]
set_option maxHeartbeats 4000000 in
set_option maxRecDepth 100000 in
theorem run_eqK (n m : Int) (g f : Fa) (w : World) : (binOp .eql 71 (.agg (KA n g)) (.agg (KA m f))).run Tryz.prog w = .ok (.bool (eqK (n, g) (m, f))) w := by
  unfold KA eqK eqF sameF
  by_cases h0 : n = m
  · by_cases h1 : g.id = f.id
    · by_cases h2 : g.pe = f.pe
      · by_cases h3 : g.ki = f.ki
        · by_cases h4 : g.fr = f.fr
          · by_cases h5 : g.to = f.to
            · by_cases h6 : g.co.toList = f.co.toList
              · by_cases h7 : g.nu = f.nu
                · by_cases h8 : g.tx.toList = f.tx.toList
                  all_goals go_simp
                · go_simp
              · go_simp
            · go_simp
          · go_simp
        · go_simp
      · go_simp
    · go_simp
  · go_simp
theorem eqF_iff (g f : Fa) : eqF g f = true ↔ g = f := by
  constructor
  · intro h
    unfold eqF sameF at h
    rw [Bool.and_eq_true, decide_eq_true_eq, decide_eq_true_eq] at h
    obtain ⟨h1, h2, h3, h4, h5, h6, h7, h8⟩ := h
    obtain ⟨a1, a2, a3, a4, a5, a6, a7, a8⟩ := g
    obtain ⟨b1, b2, b3, b4, b5, b6, b7, b8⟩ := f
    have hb : ∀ a b : ByteArray, a.toList = b.toList → a = b := fun a b h => by
      rw [ByteArray.toList_eq, ByteArray.toList_eq] at h
      obtain ⟨⟨x⟩⟩ := a
      obtain ⟨⟨y⟩⟩ := b
      simp at h
      rw [h]
    simp only at h1 h2 h3 h4 h5 h6 h7 h8
    rw [h1, h2, h3, h4, h5, hb _ _ h6, h7, hb _ _ h8]
  · rintro rfl
    exact eqF_self g
theorem eqK_iff (y x : Kn) : eqK y x = true ↔ y = x := by
  obtain ⟨n, g⟩ := y
  obtain ⟨m, f⟩ := x
  unfold eqK
  rw [Bool.and_eq_true, decide_eq_true_eq, eqF_iff]
  simp
/-- Is a known fact among some? -/
def hasB (Y : List Kn) (x : Kn) : Bool := Y.any fun y => eqK y x

set_option maxHeartbeats 4000000 in
set_option maxRecDepth 100000 in
theorem r9_has (Y : List Kn) (A : Option Addr) (cap : Nat) (n : Int) (f : Fa) (w : World) (hn : Y.length ≤ 1000000) (hs : SlK w A Y) :
    Calls Tryz.prog 41 #[.slice A Y.length cap, .agg (KA n f)] w fun e w' => e = .returned (.bool (hasB Y (n, f))) ∧ Below w.heap.size w w' := by
  obtain ⟨kb, hkb⟩ : ∃ x, w.heap.size = x := ⟨_, rfl⟩
  obtain ⟨w2, hw2⟩ : ∃ x, w.alloc (.cells (KA n f) 71) = x := ⟨_, rfl⟩
  have HB2 : Hid (Below w.heap.size w w2) := Lib.hid (by rw [← hw2]; exact bAlloc _ _)
  have HK2 : Hid (Bk kb 71 (KA n f) w2) := Lib.hid (by rw [← hw2, ← hkb]; exact Bk.new _ _ _)
  have HS2 : Hid (SlK w2 A Y) := Lib.hid (Sl.below hs HB2.out)
  have HE2 := Lib.hid (And.intro hkb hw2)
  clear hs
  unfold KA at hw2 ⊢
  go_enter Tryz.func41, Tryz.ntmps41
  go_upto_region 1 with fail
  clear hkb hw2
  go_wp2
  go_loopw [5] (fun iv wr => ∃ k : Nat, k ≤ Y.length ∧ iv = .int .i64 k ∧ Hid (hasB (Y.take k) (n, f) = false) ∧ Hid (Below w2.heap.size w2 wr)) (fun iv _ => Y.length - (intOf iv).toNat)
  case atStart => exact ⟨0, Nat.zero_le _, rfl, Lib.hid rfl, Lib.hid (Below.refl _ _)⟩
  case round =>
    obtain ⟨k, hk, rfl, HP, HB⟩ := hrel
    by_cases hlt : k < Y.length
    · obtain ⟨⟨m, g⟩, hx⟩ : ∃ x, Y[k]? = some x := ⟨_, List.getElem?_eq_getElem hlt⟩
      obtain ⟨b, off, rfl, hbl, hat⟩ := HS2.out (by intro h; rw [h] at hx; simp at hx)
      have hat2 : ∀ j u, (encK (m, g))[j]? = some u → wr.cell? ⟨b, off + k * 9 + j, none⟩ = some u := fun j u hu => bCell HB.out (hat k _ hx j u hu)
      have G0 := hat2 0 _ rfl
      have G1 := hat2 1 _ rfl
      have G2 := hat2 2 _ rfl
      have G3 := hat2 3 _ rfl
      have G4 := hat2 4 _ rfl
      have G5 := hat2 5 _ rfl
      have G6 := hat2 6 _ rfl
      have G7 := hat2 7 _ rfl
      have G8 := hat2 8 _ rfl
      simp only [Nat.add_zero] at G0
      have hk8 : Bk kb 71 (KA n f) wr := (HB.out.block kb HK2.out.lt).trans HK2.out
      have F0 : wr.cell? ⟨kb, 0, none⟩ = some (.int .i64 n) := Bk.cell hk8 0
      have F1 : wr.cell? ⟨kb, 1, none⟩ = some (.int .u32 f.id) := Bk.cell hk8 1
      have F2 : wr.cell? ⟨kb, 2, none⟩ = some (.int .u32 f.pe) := Bk.cell hk8 2
      have F3 : wr.cell? ⟨kb, 3, none⟩ = some (.int .i64 f.ki) := Bk.cell hk8 3
      have F4 : wr.cell? ⟨kb, 4, none⟩ = some (.int .i64 f.fr) := Bk.cell hk8 4
      have F5 : wr.cell? ⟨kb, 5, none⟩ = some (.int .i64 f.to) := Bk.cell hk8 5
      have F6 : wr.cell? ⟨kb, 6, none⟩ = some (.string f.co) := Bk.cell hk8 6
      have F7 : wr.cell? ⟨kb, 7, none⟩ = some (.int .i64 f.nu) := Bk.cell hk8 7
      have F8 : wr.cell? ⟨kb, 8, none⟩ = some (.string f.tx) := Bk.cell hk8 8
      obtain ⟨sm, hsm⟩ : ∃ x, eqK (m, g) (n, f) = x := ⟨_, rfl⟩
      have hq : ∀ W : World, (binOp .eql 71 (.agg (KA m g)) (.agg (KA n f))).run Tryz.prog W = .ok (.bool sm) W := fun W => by rw [run_eqK, hsm]
      unfold KA at hq
      have hlt2 : (k : Int) < (Y.length : Int) := by omega
      have HX := Lib.hid hx
      have HSM := Lib.hid hsm
      clear hat hat2 hx hk8 hsm
      go_wp2_with fail
      go_quiet (fail)
      clear G0 G1 G2 G3 G4 G5 G6 G7 G8 F0 F1 F2 F3 F4 F5 F6 F7 F8 hq
      have HBN : Hid (Below w2.heap.size w2 (wr.drewN nq)) := Lib.hid (bTrans HB.out (bDrewN _ _))
      generalize wr.drewN nq = wn at *
      cases sm with
      | true =>
        have HF : Hid (hasB Y (n, f) = true) := Lib.hid (any_bad HX.out HSM.out)
        go_wp2
        go_ret
        exact ⟨ret_b HF.out.symm, bTrans HB2.out HBN.out⟩
      | false =>
        have HN : Hid (hasB (Y.take (k + 1)) (n, f) = false) := Lib.hid (any_more HP.out HX.out HSM.out)
        go_wp2
        exact ⟨⟨k + 1, by omega, by go_num, HN, HBN⟩, by simp [intOf]; omega⟩
    · obtain rfl : k = Y.length := by omega
      have HF : Hid (hasB Y (n, f) = false) := Lib.hid (by have := HP.out; rwa [List.take_length] at this)
      go_wp2
      go_ret
      exact ⟨ret_b HF.out.symm, bTrans HB2.out HB.out⟩

set_option maxHeartbeats 4000000 in
set_option maxRecDepth 100000 in
theorem la_same (L : List Kn) (A B : Option Addr) (ca cb : Nat) (w : World) (hn : L.length ≤ 1000000) (hL : SlK w A L) (hM : SlK w B L) :
    Calls Tryz.prog 15 #[.slice A L.length ca, .slice B L.length cb] w fun e w' => e = .returned (.bool true) ∧ Below w.heap.size w w' := by
  have HA := Lib.hid hL
  have HM := Lib.hid hM
  clear hL hM
  go_enter Tryz.func15, Tryz.ntmps15
  go_wp2
  go_loopw [14] (fun iv wr => ∃ k : Nat, k ≤ L.length ∧ iv = .int .i64 k ∧ Hid (Below w.heap.size w wr)) (fun iv _ => L.length - (intOf iv).toNat)
  case atStart => exact ⟨0, Nat.zero_le _, rfl, Lib.hid (Below.refl _ _)⟩
  case round =>
    obtain ⟨k, hk, rfl, HBR⟩ := hrel
    by_cases hlt : k < L.length
    · obtain ⟨⟨n, f⟩, hx⟩ : ∃ x, L[k]? = some x := ⟨_, List.getElem?_eq_getElem hlt⟩
      obtain ⟨b, off, rfl, hbl, hat⟩ := HM.out (by intro h; rw [h] at hx; simp at hx)
      obtain ⟨b2, off2, rfl, hbl2, hat2⟩ := HA.out (by intro h; rw [h] at hx; simp at hx)
      have HC : Hid (∀ W, Below w.heap.size w W → (∀ j u, (encK (n, f))[j]? = some u → W.cell? ⟨b2, off2 + k * 9 + j, none⟩ = some u) ∧ (∀ j u, (encK (n, f))[j]? = some u → W.cell? ⟨b, off + k * 9 + j, none⟩ = some u)) := Lib.hid fun W hW => ⟨fun j u hu => bCell hW (hat2 k _ hx j u hu), fun j u hu => bCell hW (hat k _ hx j u hu)⟩
      have G0 := (HC.out _ HBR.out).1 0 _ rfl
      have G1 := (HC.out _ HBR.out).1 1 _ rfl
      have G2 := (HC.out _ HBR.out).1 2 _ rfl
      have G3 := (HC.out _ HBR.out).1 3 _ rfl
      have G4 := (HC.out _ HBR.out).1 4 _ rfl
      have G5 := (HC.out _ HBR.out).1 5 _ rfl
      have G6 := (HC.out _ HBR.out).1 6 _ rfl
      have G7 := (HC.out _ HBR.out).1 7 _ rfl
      have G8 := (HC.out _ HBR.out).1 8 _ rfl
      simp only [Nat.add_zero] at G0
      obtain ⟨fb, hfb⟩ : ∃ x, wr.heap.size = x := ⟨_, rfl⟩
      obtain ⟨w5, hw5⟩ : ∃ x, wr.alloc (.cells (KA n f) 60) = x := ⟨_, rfl⟩
      have HF5 : Hid (Bk fb 60 (KA n f) w5) := Lib.hid (by rw [← hw5, ← hfb]; exact Bk.new _ _ _)
      have HB5 : Hid (Below w.heap.size w w5) := Lib.hid (by rw [← hw5]; exact bTrans HBR.out (bAlloc wr _))
      unfold KA at hw5
      have HE5 := Lib.hid (And.intro hfb hw5)
      clear hat hat2 hx hfb hw5
      go_upto_region 6 with fail
      rw [HE5.out.1, HE5.out.2]
      clear G0 G1 G2 G3 G4 G5 G6 G7 G8 HE5
      have F0 : w5.cell? ⟨fb, 0, none⟩ = some (.int .i64 n) := HF5.out.cell 0
      have F1 : w5.cell? ⟨fb, 1, none⟩ = some (.int .u32 f.id) := HF5.out.cell 1
      have F2 : w5.cell? ⟨fb, 2, none⟩ = some (.int .u32 f.pe) := HF5.out.cell 2
      have F3 : w5.cell? ⟨fb, 3, none⟩ = some (.int .i64 f.ki) := HF5.out.cell 3
      have F4 : w5.cell? ⟨fb, 4, none⟩ = some (.int .i64 f.fr) := HF5.out.cell 4
      have F5 : w5.cell? ⟨fb, 5, none⟩ = some (.int .i64 f.to) := HF5.out.cell 5
      have F6 : w5.cell? ⟨fb, 6, none⟩ = some (.string f.co) := HF5.out.cell 6
      have F7 : w5.cell? ⟨fb, 7, none⟩ = some (.int .i64 f.nu) := HF5.out.cell 7
      have F8 : w5.cell? ⟨fb, 8, none⟩ = some (.string f.tx) := HF5.out.cell 8
      have G0 := (HC.out _ HB5.out).2 0 _ rfl
      have G1 := (HC.out _ HB5.out).2 1 _ rfl
      have G2 := (HC.out _ HB5.out).2 2 _ rfl
      have G3 := (HC.out _ HB5.out).2 3 _ rfl
      have G4 := (HC.out _ HB5.out).2 4 _ rfl
      have G5 := (HC.out _ HB5.out).2 5 _ rfl
      have G6 := (HC.out _ HB5.out).2 6 _ rfl
      have G7 := (HC.out _ HB5.out).2 7 _ rfl
      have G8 := (HC.out _ HB5.out).2 8 _ rfl
      simp only [Nat.add_zero] at G0
      have hq : ∀ W : World, (binOp .neq 37 (.agg (FA f)) (.agg (FA f))).run Tryz.prog W = .ok (.bool false) W := run_neF f
      unfold FA at hq
      have hne : (n != n) = false := by simp
      have hlt2 : (k : Int) < (L.length : Int) := by omega
      go_wp2_with fail
      go_quiet (fail)
      clear F0 F1 F2 F3 F4 F5 F6 F7 F8 G0 G1 G2 G3 G4 G5 G6 G7 G8 hq
      go_wp2
      exact ⟨⟨k + 1, by omega, by go_num, Lib.hid (bTrans HB5.out (bDrewN _ _))⟩, by simp [intOf]; omega⟩
    · obtain rfl : k = L.length := by omega
      go_wp2
      go_ret
      exact ⟨rfl, HBR.out⟩
end Go.Proofs.YtdpejolpjhlibaaGreatDoor
