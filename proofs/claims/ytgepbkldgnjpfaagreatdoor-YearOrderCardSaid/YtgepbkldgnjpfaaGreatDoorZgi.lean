/- Out of: Ye2 Yf0 Yf1. -/
import Derived.Test.YtgepbkldgnjpfaaGreatDoorZgb
import Derived.Test.YtgepbkldgnjpfaaGreatDoorZgh
import Derived.Deep.RegionHeld3
import Derived.Shelf.SlSortCmp.QuietGrown
/- attach.Check. -/
namespace Go.Proofs.YtgepbkldgnjpfaaGreatDoor
open Go.RowKit Go.Sort Go.BigFrame Go.Maps

set_option maxHeartbeats 4000000 in
set_option maxRecDepth 100000 in
theorem at_Check (l : List Od) (A : Option Addr) (cap : Nat) (w : World) (hn : l.length ≤ 1000000) (hsz : ∀ x ∈ l, x.co.size ≤ 9223372036854775807) (hs : Sl encO 6 w w.heap.size A l) :
    Calls Tryz.prog 82 #[.slice A l.length cap] w fun e w' => e = .returned (.int .i64 (attE l)) ∧ Below w.heap.size w w' := by
  by_cases h64 : 64 < l.length
  · have HB : Hid (attE l = 5) := Lib.hid (if_pos h64)
    go_enter Tryz.func82, Tryz.ntmps82
    go_wp2
    go_ret
    rw [HB.out]
    exact ⟨rfl, Below.refl _ _⟩
  obtain ⟨R, hR⟩ : ∃ R, attE l = R := ⟨_, rfl⟩
  have HR : Hid (chkO [] l = R) := Lib.hid (by rw [← hR]; exact (if_neg h64).symm)
  rw [hR]
  obtain ⟨mb, hmb⟩ : ∃ x, w.heap.size = x := ⟨_, rfl⟩
  obtain ⟨w2, hw2⟩ : ∃ x, w.alloc (.map #[] 0) = x := ⟨_, rfl⟩
  have k2 : OmU [] 0 mb w2 := by
    have := World.ownsMap_made (H := Value) w Tryz.prog 9 heldV
    rw [hmb, hw2] at this
    exact this
  have HK := Lib.hid k2
  have HB2 : Hid (Below w.heap.size w w2) := Lib.hid (by rw [← hw2]; exact bAlloc w _)
  have HMB : Hid (w.heap.size ≤ mb) := Lib.hid (by omega)
  have HS := Lib.hid hs
  have HSZ := Lib.hid hsz
  have HN : Hid (l.length ≤ 64) := Lib.hid (by omega)
  have hmm := @run_makeMap Tryz.prog
  clear hR k2 hs hsz
  go_enter Tryz.func82, Tryz.ntmps82
  go_upto_region 4 with fail
  clear hw2 hmm hmb
  go_wp2
  go_loopw [12] (fun iv wr => ∃ (n : Nat) (m : Ass ByteArray Unit), n ≤ l.length ∧ iv = .int .i64 n ∧ Hid (chkO m (l.drop n) = R) ∧ Hid (OmU m n mb wr) ∧ Hid (Below w.heap.size w wr)) (fun iv _ => l.length - (intOf iv).toNat)
  case atStart => exact ⟨0, [], Nat.zero_le _, rfl, HR, HK, HB2⟩
  case round =>
    obtain ⟨n, m, hn1, rfl, HA, HM, HB⟩ := hrel
    by_cases hlt : n < l.length
    · obtain ⟨b, off, rfl, hB, hc⟩ := HS.out (by intro h; simp [h] at hlt)
      obtain ⟨x, hx⟩ : ∃ x, l[n]? = some x := ⟨_, List.getElem?_eq_getElem hlt⟩
      have hdrop : l.drop n = x :: l.drop (n + 1) := by
        rw [List.drop_eq_getElem_cons hlt]
        congr 1
        have := List.getElem?_eq_getElem hlt
        rw [hx] at this
        exact (Option.some.inj this).symm
      have hco : x.co.size ≤ 9223372036854775807 := HSZ.out _ (List.mem_of_getElem? hx)
      have HC : Hid (chkO m (x :: l.drop (n + 1)) = R) := Lib.hid (by rw [← hdrop]; exact HA.out)
      obtain ⟨co, ra, rt, fx, pr, tt⟩ := x
      dsimp only at hco
      have C0 : wr.cell? ⟨b, off + n * 6, none⟩ = some (.string co) := (HB.out.cell (p := ⟨b, off + n * 6, none⟩) hB).trans (by simpa using hc n _ hx 0 _ rfl)
      have C1 : wr.cell? ⟨b, off + n * 6 + 1, none⟩ = some (.int .i64 ra) := (HB.out.cell (p := ⟨b, off + n * 6 + 1, none⟩) hB).trans (hc n _ hx 1 _ rfl)
      have C2 : wr.cell? ⟨b, off + n * 6 + 2, none⟩ = some (.int .i64 rt) := (HB.out.cell (p := ⟨b, off + n * 6 + 2, none⟩) hB).trans (hc n _ hx 2 _ rfl)
      have C3 : wr.cell? ⟨b, off + n * 6 + 3, none⟩ = some (.int .i64 fx) := (HB.out.cell (p := ⟨b, off + n * 6 + 3, none⟩) hB).trans (hc n _ hx 3 _ rfl)
      have C4 : wr.cell? ⟨b, off + n * 6 + 4, none⟩ = some (.int .i64 pr) := (HB.out.cell (p := ⟨b, off + n * 6 + 4, none⟩) hB).trans (hc n _ hx 4 _ rfl)
      have C5 : wr.cell? ⟨b, off + n * 6 + 5, none⟩ = some (.int .i64 tt) := (HB.out.cell (p := ⟨b, off + n * 6 + 5, none⟩) hB).trans (hc n _ hx 5 _ rfl)
      obtain ⟨q, hq⟩ : ∃ r, ([fx, pr, tt] : List Int).all amtB = r := ⟨_, rfl⟩
      obtain ⟨nm, hnm⟩ : ∃ y, nameB (ls co) = y := ⟨_, rfl⟩
      obtain ⟨tw, htw⟩ : ∃ y, (getA m co).isSome = y := ⟨_, rfl⟩
      have HD : Hid (R = if nm = false then 12 else if (decide (ra < 0) || (decide (99 < ra) || (decide (rt < 0) || (decide (1000000 < rt) || !q)))) = true then 2 else if tw = true then 7 else chkO ((co, ()) :: m) (l.drop (n + 1))) := Lib.hid (by
        rw [← HC.out, chkO_cons]
        unfold ordBad
        dsimp only
        rw [hnm, htw, hq])
      have HNM : Hid (∀ W, Calls Tryz.prog 104 #[.string co] W fun e w' => e = .returned (.bool nm) ∧ W = w') := Lib.hid fun W => by rw [← hnm]; exact at_named co W hco
      have HX : Hid (∀ A cap W, Sl encC 1 W W.heap.size A [fx, pr, tt] → Calls Tryz.prog 84 #[.slice A 3 cap] W fun e w' => e = .returned (.bool q) ∧ W = w') := Lib.hid fun A cap W h => by rw [← hq]; exact at_amounts [fx, pr, tt] A cap W (by simp) h
      have HKY : Hid (keyOf Tryz.prog 9 (.string co) = some (kS co)) := Lib.hid (keyOfS (by unfold maxLen; omega))
      have hbs := HB.out.size
      have HTW := Lib.hid htw
      clear hc hx hdrop hco hq hnm htw HC HA
      obtain ⟨fb, hfb⟩ : ∃ y, wr.heap.size = y := ⟨_, rfl⟩
      obtain ⟨wa, hwa⟩ : ∃ y, wr.alloc (.cells #[.string co, .int .i64 ra, .int .i64 rt, .int .i64 fx, .int .i64 pr, .int .i64 tt] 61) = y := ⟨_, rfl⟩
      have hb0 : Bk fb 61 #[.string co, .int .i64 ra, .int .i64 rt, .int .i64 fx, .int .i64 pr, .int .i64 tt] wa := by rw [← hwa, ← hfb]; exact Bk.new _ _ _
      have HB1 : Hid (Below w.heap.size w wa) := Lib.hid (HB.out.trans (by rw [← hwa]; exact (Grows.of_alloc wr _).below.mono hbs))
      have HM1 : Hid (OmU m n mb wa) := Lib.hid (by rw [← hwa]; exact HM.out.alloc _)
      have hlta := hb0.lt
      have D0 : wa.cell? ⟨fb, 0, none⟩ = some (.string co) := hb0.cell 0
      have D1 : wa.cell? ⟨fb, 1, none⟩ = some (.int .i64 ra) := hb0.cell 1
      have D2 : wa.cell? ⟨fb, 2, none⟩ = some (.int .i64 rt) := hb0.cell 2
      have D3 : wa.cell? ⟨fb, 3, none⟩ = some (.int .i64 fx) := hb0.cell 3
      have D4 : wa.cell? ⟨fb, 4, none⟩ = some (.int .i64 pr) := hb0.cell 4
      have D5 : wa.cell? ⟨fb, 5, none⟩ = some (.int .i64 tt) := hb0.cell 5
      have HB0 := Lib.hid hb0
      have HWF := Lib.hid (And.intro hfb hwa)
      clear hfb hwa hb0 HM HB hbs
      go_upto_region 7 with fail
      rw [HWF.out.1, HWF.out.2]
      clear C0 C1 C2 C3 C4 C5 HWF
      go_wp2_with fail
      refine (HNM.out _).mono ?_
      rintro e w1 ⟨rfl, rfl⟩
      cases nm with
      | false =>
        have HE : Hid (R = 12) := Lib.hid (by rw [HD.out, if_pos rfl])
        go_wp2
        go_ret
        rw [HE.out]
        exact ⟨rfl, HB1.out⟩
      | true =>
      have HD1 : Hid (R = if (decide (ra < 0) || (decide (99 < ra) || (decide (rt < 0) || (decide (1000000 < rt) || !q)))) = true then 2 else if tw = true then 7 else chkO ((co, ()) :: m) (l.drop (n + 1))) := Lib.hid (by rw [HD.out]; simp only [Bool.true_eq_false, ↓reduceIte])
      clear HD HNM
      by_cases h1 : ra < 0
      · have d1 : decide (ra < (0 : Int)) = true := decide_eq_true h1
        have HE : Hid (R = 2) := Lib.hid (by rw [HD1.out, d1]; rfl)
        clear h1
        go_wp2
        go_ret
        rw [HE.out]
        exact ⟨rfl, HB1.out⟩
      have d1 : decide (ra < (0 : Int)) = false := decide_eq_false h1
      by_cases h2 : 99 < ra
      · have d2 : decide ((99 : Int) < ra) = true := decide_eq_true h2
        have HE : Hid (R = 2) := Lib.hid (by rw [HD1.out, d1, d2]; rfl)
        clear h1 h2
        go_wp2
        go_ret
        rw [HE.out]
        exact ⟨rfl, HB1.out⟩
      have d2 : decide ((99 : Int) < ra) = false := decide_eq_false h2
      by_cases h3 : rt < 0
      · have d3 : decide (rt < (0 : Int)) = true := decide_eq_true h3
        have HE : Hid (R = 2) := Lib.hid (by rw [HD1.out, d1, d2, d3]; rfl)
        clear h1 h2 h3
        go_wp2
        go_ret
        rw [HE.out]
        exact ⟨rfl, HB1.out⟩
      have d3 : decide (rt < (0 : Int)) = false := decide_eq_false h3
      by_cases h4 : 1000000 < rt
      · have d4 : decide ((1000000 : Int) < rt) = true := decide_eq_true h4
        have HE : Hid (R = 2) := Lib.hid (by rw [HD1.out, d1, d2, d3, d4]; rfl)
        clear h1 h2 h3 h4
        go_wp2
        go_ret
        rw [HE.out]
        exact ⟨rfl, HB1.out⟩
      have d4 : decide ((1000000 : Int) < rt) = false := decide_eq_false h4
      have HD2 : Hid (R = if (!q) = true then 2 else if tw = true then 7 else chkO ((co, ()) :: m) (l.drop (n + 1))) := Lib.hid (by rw [HD1.out, d1, d2, d3, d4]; rfl)
      clear h1 h2 h3 h4 HD1
      go_wp2_with fail
      refine (HX.out _ _ _ ?_).mono ?_
      · have := slNewC wa 28 [fx, pr, tt]
        simpa using this
      rintro e w1 ⟨rfl, rfl⟩
      obtain ⟨wb, hwb⟩ : ∃ y, wa.alloc (.cells #[.int .i64 fx, .int .i64 pr, .int .i64 tt] 28) = y := ⟨_, rfl⟩
      have hbb : Below wa.heap.size wa wb := by rw [← hwb]; exact bAlloc _ _
      have HB3 : Hid (Below w.heap.size w wb) := Lib.hid (HB1.out.trans (hbb.mono HB1.out.size))
      have HM3 : Hid (OmU m n mb wb) := Lib.hid (hmBel HM1.out hbb)
      have E0 : wb.cell? ⟨fb, 0, none⟩ = some (.string co) := (bkBel HB0.out hbb).cell 0
      rw [hwb]
      clear hbb hwb D0 D1 D2 D3 D4 D5 d1 d2 d3 d4 HX
      cases q with
      | false =>
        have HE : Hid (R = 2) := Lib.hid (by rw [HD2.out]; rfl)
        go_wp2
        go_ret
        rw [HE.out]
        exact ⟨rfl, HB3.out⟩
      | true =>
      have HLK : Hid ((Instr.lookup 139 (.map (some mb)) (.string co) false).run Tryz.prog wb = .ok (.bool tw) wb) := Lib.hid (by
        have := MapV.look (v := .map (some mb)) (Or.inr ⟨mb, rfl, HM3.out⟩) keyT kS_W Tryz.underlying139 (zeroBo wb) HKY.out
        rw [lkU, HTW.out] at this
        exact this)
      have HNB : Hid (n < maxLen) := Lib.hid (by have := HN.out; unfold maxLen; omega)
      cases tw with
      | true =>
        have HE : Hid (R = 7) := Lib.hid (by rw [HD2.out]; rfl)
        go_wp2_with (at_lookup; refine wpList_look _ rfl _ _ _ _ rfl _ _ _ rfl rfl HLK.out ?_)
        go_ret
        rw [HE.out]
        exact ⟨rfl, HB3.out⟩
      | false =>
        have HE : Hid (chkO ((co, ()) :: m) (l.drop (n + 1)) = R) := Lib.hid (by rw [HD2.out]; rfl)
        go_wp2_with (first
          | (at_lookup; refine wpList_look _ rfl _ _ _ _ rfl _ _ _ rfl rfl HLK.out ?_)
          | (at_mapUpdate; refine wpList_mapUpdate_own _ rfl _ _ _ 139 rfl 9 4 keyT Tryz.underlying139 heldV mb n _ rfl HM3.out HNB.out _ _ _ rfl rfl HKY.out _ [] rfl ?_))
        intro w5 hm5 hg5
        have HB6 : Hid (Below w.heap.size w w5) := Lib.hid (HB3.out.grown hg5 HB3.out.size (fun j hj => by cases hj; exact HMB.out))
        have HM6 : Hid (OmU ((co, ()) :: m) (n + 1) mb w5) := Lib.hid hm5
        clear hm5 hg5
        go_wp2
        exact ⟨⟨n + 1, _, by omega, by go_num, HE, HM6, HB6⟩, by simp [intOf]; omega⟩
    · obtain rfl : n = l.length := by omega
      go_wp2
      go_ret
      have h := HA.out
      rw [List.drop_length] at h
      rw [← h]
      exact ⟨rfl, HB.out⟩
end Go.Proofs.YtgepbkldgnjpfaaGreatDoor

/- The order in which orders are served, as a number. -/
namespace Go.Proofs.YtgepbkldgnjpfaaGreatDoor.Ao
open Go.RowKit Go.Sort Go.BigFrame

/-- A text of at most n bytes, as a number that keeps the order. -/
def numT : Nat → List UInt8 → Nat
  | 0, _ => 0
  | _ + 1, [] => 0
  | n + 1, b :: r => (b.toNat + 1) * 257 ^ n + numT n r
theorem numT_lt : ∀ (n : Nat) (l : List UInt8), numT n l < 257 ^ n
  | 0, _ => by simp [numT]
  | n + 1, [] => by simp [numT]; exact Nat.pow_pos (by decide)
  | n + 1, b :: r => by
    have h1 := numT_lt n r
    have h2 : b.toNat < 256 := b.toNat_lt
    unfold numT
    have h3 : (b.toNat + 1) * 257 ^ n ≤ 256 * 257 ^ n := Nat.mul_le_mul_right _ (by omega)
    rw [Nat.pow_succ]
    omega
theorem numT_less : ∀ (n : Nat) (l m : List UInt8), l.length ≤ n → m.length ≤ n → (Op.bytesLess l m = true ↔ numT n l < numT n m) ∧ (numT n l = numT n m → l = m)
  | 0, l, m, hl, hm => by
    have : l = [] := List.length_eq_zero_iff.1 (by omega)
    have : m = [] := List.length_eq_zero_iff.1 (by omega)
    subst l m
    exact ⟨by simp [Op.bytesLess, numT], fun _ => rfl⟩
  | n + 1, [], [], _, _ => ⟨by simp [Op.bytesLess, numT], fun _ => rfl⟩
  | n + 1, [], b :: r, _, _ => by
    have h : 0 < 257 ^ n := Nat.pow_pos (by decide)
    have h2 : 1 * 257 ^ n ≤ (b.toNat + 1) * 257 ^ n := Nat.mul_le_mul_right _ (by omega)
    refine ⟨?_, fun h3 => ?_⟩
    · simp only [Op.bytesLess, numT, true_iff]; omega
    · simp only [numT] at h3; omega
  | n + 1, a :: l, [], _, _ => by
    have h : 0 < 257 ^ n := Nat.pow_pos (by decide)
    have h2 : 1 * 257 ^ n ≤ (a.toNat + 1) * 257 ^ n := Nat.mul_le_mul_right _ (by omega)
    refine ⟨?_, fun h3 => ?_⟩
    · simp only [Op.bytesLess, numT, Nat.not_lt_zero, Bool.false_eq_true]
    · simp only [numT] at h3; omega
  | n + 1, a :: l, b :: r, hl, hm => by
    have ih := numT_less n l r (by simpa using hl) (by simpa using hm)
    have k1 := numT_lt n l
    have k2 := numT_lt n r
    unfold numT Op.bytesLess
    rcases Nat.lt_trichotomy a.toNat b.toNat with h | h | h
    · have h2 : (a.toNat + 1 + 1) * 257 ^ n ≤ (b.toNat + 1) * 257 ^ n := Nat.mul_le_mul_right _ (by omega)
      rw [Nat.add_mul] at h2
      have h3 : decide (a < b) = true := decide_eq_true (UInt8.lt_iff_toNat_lt.2 h)
      rw [h3]
      refine ⟨⟨fun _ => by omega, fun _ => rfl⟩, fun h4 => by omega⟩
    · have e : a = b := UInt8.toNat_inj.1 h
      subst e
      have h3 : decide (a < a) = false := decide_eq_false (fun h => by have := UInt8.lt_iff_toNat_lt.1 h; omega)
      rw [h3, beq_self_eq_true, Bool.true_and, Bool.false_or]
      refine ⟨⟨fun h4 => by have := ih.1.1 h4; omega, fun h4 => ih.1.2 (by omega)⟩, fun h4 => by rw [ih.2 (by omega)]⟩
    · have h2 : (b.toNat + 1 + 1) * 257 ^ n ≤ (a.toNat + 1) * 257 ^ n := Nat.mul_le_mul_right _ (by omega)
      rw [Nat.add_mul] at h2
      have h3 : decide (a < b) = false := decide_eq_false (fun k => by have := UInt8.lt_iff_toNat_lt.1 k; omega)
      have h4 : (a == b) = false := beq_eq_false_iff_ne.2 (fun e => by subst e; omega)
      rw [h3, h4]
      refine ⟨⟨fun h => (by cases h), fun h => (by omega)⟩, fun h => (by omega)⟩
/-- An order's number: by its rank, then by its code. -/
def keyO (o : Od) : Int := o.ra * (257 ^ 32 : Nat) + (numT 32 (ls o.co) : Int)
/-- An order with its number. -/
structure Eo where
  k : Int
  o : {o : Od // keyO o = k ∧ o.co.size ≤ 32}
def encE (x : Eo) : List Value := encO x.o.1
theorem encE_len (x : Eo) : (encE x).length = 6 := rfl
def cf (x y : Int) : Int := if x < y then -1 else if y < x then 1 else 0
theorem cf_neg (x y : Int) : (x < y → cf x y < 0) ∧ (¬ x < y → 0 ≤ cf x y) := ⟨fun h => by unfold cf; rw [if_pos h]; omega, fun h => by unfold cf; rw [if_neg h]; split <;> omega⟩
def lt (x y : Eo) : Bool := decide (x.1 < y.1)
theorem lt_swk : Swk lt := ⟨fun x y h => by simp [lt] at h ⊢; omega, fun x y z h k => by simp [lt] at h k ⊢; omega⟩
theorem cf_pair (a b : Od) : cf (keyO a) (keyO b) = if cf a.ra b.ra ≠ 0 then cf a.ra b.ra else cf (numT 32 (ls a.co)) (numT 32 (ls b.co)) := by
  have h1 := numT_lt 32 (ls a.co)
  have h2 := numT_lt 32 (ls b.co)
  unfold keyO
  generalize numT 32 (ls a.co) = x at *
  generalize numT 32 (ls b.co) = y at *
  generalize (257 ^ 32 : Nat) = M at *
  unfold cf
  rcases Int.lt_trichotomy a.ra b.ra with h | h | h
  · have h3 : (a.ra + 1) * (M : Int) ≤ b.ra * M := Int.mul_le_mul_of_nonneg_right (by omega) (by omega)
    rw [Int.add_mul, Int.one_mul] at h3
    rw [if_pos (by omega), if_pos h, if_pos (by decide)]
  · rw [h]
    simp only [Int.lt_irrefl, if_false, ne_eq, not_true_eq_false]
    by_cases k : x < y
    · rw [if_pos (by omega), if_pos (by omega)]
    · by_cases k2 : y < x
      · rw [if_neg (by omega), if_pos (by omega), if_neg (by omega), if_pos (by omega)]
      · rw [if_neg (by omega), if_neg (by omega), if_neg (by omega), if_neg (by omega)]
  · have h3 : (b.ra + 1) * (M : Int) ≤ a.ra * M := Int.mul_le_mul_of_nonneg_right (by omega) (by omega)
    rw [Int.add_mul, Int.one_mul] at h3
    have hc : (if a.ra < b.ra then (-1 : Int) else if b.ra < a.ra then 1 else 0) = 1 := by rw [if_neg (by omega), if_pos h]
    rw [hc, if_neg (by omega), if_pos (by omega), if_pos (by decide)]
theorem cmp_isNaNI (x : Int) (w : World) : Calls Tryz.prog 95 #[.int .i64 x] w fun e w' => e = .returned (.bool false) ∧ w' = w := by
  go_enter Tryz.func95, Tryz.ntmps95
  go_wp2
  go_ret
  exact ⟨rfl, rfl⟩
theorem cmp_isNaNS (x : ByteArray) (w : World) : Calls Tryz.prog 96 #[.string x] w fun e w' => e = .returned (.bool false) ∧ w' = w := by
  go_enter Tryz.func96, Tryz.ntmps96
  go_wp2
  go_ret
  exact ⟨by simp, rfl⟩
theorem cmp_CompareI (x y : Int) (w : World) : Calls Tryz.prog 66 #[.int .i64 x, .int .i64 y] w fun e w' => e = .returned (.int .i64 (cf x y)) ∧ w' = w := by
  go_enter Tryz.func66, Tryz.ntmps66
  go_wp2_with fail
  refine (cmp_isNaNI x _).mono ?_
  rintro e w1 ⟨rfl, rfl⟩
  go_wp2_with fail
  refine (cmp_isNaNI y _).mono ?_
  rintro e w1 ⟨rfl, rfl⟩
  by_cases h : x < y
  · go_wp2
    go_ret
    exact ⟨by unfold cf; rw [if_pos (by omega)]; rfl, rfl⟩
  · by_cases h1 : y < x
    · go_wp2
      go_ret
      exact ⟨by unfold cf; rw [if_neg (by omega), if_pos (by omega)]; rfl, rfl⟩
    · go_wp2
      go_ret
      exact ⟨by unfold cf; rw [if_neg (by omega), if_neg (by omega)]; rfl, rfl⟩
theorem cmp_CompareS (x y : ByteArray) (w : World) (hx : x.size ≤ 32) (hy : y.size ≤ 32) : Calls Tryz.prog 67 #[.string x, .string y] w fun e w' => e = .returned (.int .i64 (cf (numT 32 (ls x)) (numT 32 (ls y)))) ∧ w' = w := by
  have h := numT_less 32 (ls x) (ls y) (by rw [ls_len]; exact hx) (by rw [ls_len]; exact hy)
  rw [← toList_ls, ← toList_ls] at h
  rw [← toList_ls, ← toList_ls]
  rw [toList_ls, toList_ls] at *
  have hls : x.toList = ls x := toList_ls x
  have hlm : y.toList = ls y := toList_ls y
  generalize ls x = l at *
  generalize ls y = m at *
  go_enter Tryz.func67, Tryz.ntmps67
  go_wp2_with fail
  refine (cmp_isNaNS x _).mono ?_
  rintro e w1 ⟨rfl, rfl⟩
  go_wp2_with fail
  refine (cmp_isNaNS y _).mono ?_
  rintro e w1 ⟨rfl, rfl⟩
  have HN := Lib.hid h
  clear h
  cases hb : Op.bytesLess l m with
  | true =>
    have HC : Hid (numT 32 l < numT 32 m) := Lib.hid (HN.out.1.1 hb)
    go_wp2
    go_ret
    exact ⟨by unfold cf; rw [if_pos (by have := HC.out; omega)]; rfl, rfl⟩
  | false =>
    have HC : Hid (¬ numT 32 l < numT 32 m) := Lib.hid (fun k => by have := HN.out.1.2 k; rw [hb] at this; cases this)
    cases he : (l == m) with
    | true =>
      have e : l = m := eq_of_beq he
      subst e
      go_wp2
      go_ret
      exact ⟨by unfold cf; rw [if_neg (by omega), if_neg (by omega)]; rfl, rfl⟩
    | false =>
      have HD : Hid (numT 32 m < numT 32 l) := Lib.hid (by
        have h1 := HC.out
        have h2 : numT 32 l ≠ numT 32 m := fun e => by rw [HN.out.2 e, beq_self_eq_true] at he; cases he
        omega)
      go_wp2
      go_ret
      exact ⟨by unfold cf; rw [if_neg (by have := HC.out; omega), if_pos (by have := HD.out; omega)]; rfl, rfl⟩
end Go.Proofs.YtgepbkldgnjpfaaGreatDoor.Ao

/- attach.Sort$1: two orders compared. -/
namespace Go.Proofs.YtgepbkldgnjpfaaGreatDoor.Ao
open Go.RowKit Go.Sort Go.BigFrame

set_option maxHeartbeats 1000000 in
theorem cmp_Or2 (a b : Int) (A : Option Addr) (cap : Nat) (w : World) (hs : Sl encC 1 w w.heap.size A [a, b]) :
    Calls Tryz.prog 65 #[.slice A 2 cap] w fun e w' => e = .returned (.int .i64 (if a ≠ 0 then a else b)) ∧ w = w' := by
  obtain ⟨bl, off, rfl, hB, hc⟩ := hs (by simp)
  have C0 : w.cell? ⟨bl, off, none⟩ = some (.int .i64 a) := by simpa using hc 0 a rfl 0 _ rfl
  have C1 : w.cell? ⟨bl, off + 1, none⟩ = some (.int .i64 b) := by simpa using hc 1 b rfl 0 _ rfl
  clear hc hs
  go_enter Tryz.func65, Tryz.ntmps65
  go_wp2
  by_cases ha : a = 0
  · subst ha
    by_cases hb : b = 0
    · subst hb
      refine wp_loop_rounds 3 ?_
      rw [rounds_succ]
      go_wp2
      rw [rounds_succ]
      go_wp2
      rw [rounds_succ]
      go_wp2
      go_ret
      exact ⟨rfl, rfl⟩
    · have nb : (b != 0) = true := by simpa using hb
      clear hb
      refine wp_loop_rounds 3 ?_
      rw [rounds_succ]
      go_wp2
      rw [rounds_succ]
      go_wp2
      go_ret
      exact ⟨rfl, rfl⟩
  · have na : (a != 0) = true := by simpa using ha
    have nb : (a == 0) = false := beq_eq_false_iff_ne.2 ha
    have HE : Hid ((if a ≠ 0 then a else b) = a) := Lib.hid (if_pos ha)
    obtain ⟨r, hr⟩ : ∃ r, (if a ≠ 0 then a else b) = r := ⟨_, rfl⟩
    rw [hr] at HE
    refine wp_loop_rounds 3 ?_
    rw [rounds_succ]
    go_wp2
    go_ret
    exact ⟨rfl, rfl⟩
theorem grows_post {w w' : World} (h : Grows w w') : ∃ q os', w' = Sort.grow (w.drewN q) os' := h
set_option maxHeartbeats 4000000 in
set_option maxRecDepth 100000 in
theorem cmpK' (x y : Int) (f : {o : Od // keyO o = x ∧ o.co.size ≤ 32}) (g : {o : Od // keyO o = y ∧ o.co.size ≤ 32}) (w : World) : Calls Tryz.prog 107 #[.agg #[.string f.1.co, .int .i64 f.1.ra, .int .i64 f.1.rt, .int .i64 f.1.fx, .int .i64 f.1.pr, .int .i64 f.1.tt], .agg #[.string g.1.co, .int .i64 g.1.ra, .int .i64 g.1.rt, .int .i64 g.1.fx, .int .i64 g.1.pr, .int .i64 g.1.tt]] w fun e w' => e = .returned (.int .i64 (cf x y)) ∧ ∃ q os', w' = Sort.grow (w.drewN q) os' := by
  obtain ⟨f, hf, hfs⟩ := f
  obtain ⟨g, hg, hgs⟩ := g
  have HC : Hid ((if cf f.ra g.ra ≠ 0 then cf f.ra g.ra else cf (numT 32 (ls f.co)) (numT 32 (ls g.co))) = cf x y) := Lib.hid (by rw [← hf, ← hg, cf_pair])
  have HS : Hid (∀ W, Calls Tryz.prog 67 #[.string f.co, .string g.co] W fun e w' => e = .returned (.int .i64 (cf (numT 32 (ls f.co)) (numT 32 (ls g.co)))) ∧ w' = W) := Lib.hid fun W => cmp_CompareS f.co g.co W hfs hgs
  dsimp only
  clear hf hg hfs hgs
  obtain ⟨fco, fra, frt, ffx, fpr, ftt⟩ := f
  obtain ⟨gco, gra, grt, gfx, gpr, gtt⟩ := g
  dsimp only at HC HS ⊢
  obtain ⟨c1, hc1⟩ : ∃ c, cf fra gra = c := ⟨_, rfl⟩
  obtain ⟨c2, hc2⟩ : ∃ c, cf (numT 32 (ls fco)) (numT 32 (ls gco)) = c := ⟨_, rfl⟩
  obtain ⟨r, hr⟩ : ∃ c, cf x y = c := ⟨_, rfl⟩
  have HI : Hid (∀ W, Calls Tryz.prog 66 #[.int .i64 fra, .int .i64 gra] W fun e w' => e = .returned (.int .i64 c1) ∧ w' = W) := Lib.hid fun W => by rw [← hc1]; exact cmp_CompareI fra gra W
  rw [hc2] at HS
  rw [hc1, hc2, hr] at HC
  rw [hr]
  have HO : Hid (∀ A cap W, Sl encC 1 W W.heap.size A [c1, c2] → Calls Tryz.prog 65 #[.slice A 2 cap] W fun e w' => e = .returned (.int .i64 r) ∧ W = w') := Lib.hid fun A cap W h => by rw [← HC.out]; exact cmp_Or2 c1 c2 A cap W h
  clear hc1 hc2 hr HC
  obtain ⟨ab, hab⟩ : ∃ x, w.heap.size = x := ⟨_, rfl⟩
  obtain ⟨bb, hbb⟩ : ∃ x, ab + 1 = x := ⟨_, rfl⟩
  obtain ⟨wa, hwa⟩ : ∃ x, (w.alloc (.cells #[.string fco, .int .i64 fra, .int .i64 frt, .int .i64 ffx, .int .i64 fpr, .int .i64 ftt] 61)).alloc (.cells #[.string gco, .int .i64 gra, .int .i64 grt, .int .i64 gfx, .int .i64 gpr, .int .i64 gtt] 61) = x := ⟨_, rfl⟩
  have k0 : Bk ab 61 #[.string fco, .int .i64 fra, .int .i64 frt, .int .i64 ffx, .int .i64 fpr, .int .i64 ftt] wa := by rw [← hwa, ← hab]; exact (Bk.new _ _ _).grows (Grows.of_alloc _ _)
  have k1 : Bk bb 61 #[.string gco, .int .i64 gra, .int .i64 grt, .int .i64 gfx, .int .i64 gpr, .int .i64 gtt] wa := by
    have := Bk.new (w.alloc (.cells #[.string fco, .int .i64 fra, .int .i64 frt, .int .i64 ffx, .int .i64 fpr, .int .i64 ftt] 61)) 61 #[.string gco, .int .i64 gra, .int .i64 grt, .int .i64 gfx, .int .i64 gpr, .int .i64 gtt]
    rw [hwa, show (w.alloc (.cells #[.string fco, .int .i64 fra, .int .i64 frt, .int .i64 ffx, .int .i64 fpr, .int .i64 ftt] 61)).heap.size = bb by simp; omega] at this
    exact this
  have HG : Hid (Grows w wa) := Lib.hid (by rw [← hwa]; exact (Grows.of_alloc _ _).alloc _)
  have C0 : wa.cell? ⟨ab, 0, none⟩ = some (.string fco) := k0.cell 0
  have C1 : wa.cell? ⟨ab, 1, none⟩ = some (.int .i64 fra) := k0.cell 1
  have D0 : wa.cell? ⟨bb, 0, none⟩ = some (.string gco) := k1.cell 0
  have D1 : wa.cell? ⟨bb, 1, none⟩ = some (.int .i64 gra) := k1.cell 1
  have hl0 := k0.lt
  have hl1 := k1.lt
  have HWF := Lib.hid (And.intro hab (And.intro hbb hwa))
  clear k0 k1 hab hbb hwa
  go_enter Tryz.func107, Tryz.ntmps107
  go_upto_region 1 with fail
  simp only [HWF.out.1, HWF.out.2.1, HWF.out.2.2]
  clear HWF
  have e1 : ∀ W : World, (W.alloc (.cells #[.int .i64 c1, .int .i64 c2] 3)).heap.size = W.heap.size + 1 := fun W => by simp
  have HSL : Hid (∀ W : World, Sl encC 1 (W.alloc (.cells #[.int .i64 c1, .int .i64 c2] 3)) (W.alloc (.cells #[.int .i64 c1, .int .i64 c2] 3)).heap.size (some ⟨W.heap.size, 0, none⟩) [c1, c2]) := Lib.hid fun W => by
    have := slNewC W 3 [c1, c2]
    simpa using this
  have HSD : Hid (Sl encC 1 (wa.alloc (.cells #[.int .i64 c1, .int .i64 c2] 3)).drew (wa.alloc (.cells #[.int .i64 c1, .int .i64 c2] 3)).drew.heap.size (some ⟨wa.heap.size, 0, none⟩) [c1, c2]) := Lib.hid (HSL.out wa)
  go_wp2_with fail
  go_region_held3 (fun W => W.cell? ⟨ab, 0, none⟩ = some (.string fco) ∧ W.cell? ⟨ab, 1, none⟩ = some (.int .i64 fra) ∧ W.cell? ⟨bb, 0, none⟩ = some (.string gco) ∧ W.cell? ⟨bb, 1, none⟩ = some (.int .i64 gra)) (first | go_keep) (first | (go_at_call 66; (with_reducible refine (HI.out _).mono ?_); rintro e wn ⟨rfl, rfl⟩) | (go_at_call 67; (with_reducible refine (HS.out _).mono ?_); rintro e wn ⟨rfl, rfl⟩) | (go_at_call 65; (with_reducible refine (HO.out _ _ _ HSD.out).mono ?_); rintro e wn ⟨rfl, rfl⟩))
  all_goals
    go_wp2
    go_ret
    exact ⟨rfl, grows_post (HG.out.trans (by first | exact (Grows.of_drew _).alloc _ | exact ((Grows.of_alloc _ _).drew)))⟩
end Go.Proofs.YtgepbkldgnjpfaaGreatDoor.Ao
