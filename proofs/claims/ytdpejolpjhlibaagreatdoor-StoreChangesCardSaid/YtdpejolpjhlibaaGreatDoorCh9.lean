import Derived.Test.YtdpejolpjhlibaaGreatDoorHa9
/- What the document says is changed. -/
namespace Go.Proofs.YtdpejolpjhlibaaGreatDoor
open Go.RowKit Go.Sort

/-- Is a known fact one of a number, and not among others? -/
def pN (Y : List Kn) (n : Int) (x : Kn) : Bool := decide (x.1 = n) && !hasB Y x
theorem pN_hit {Y : List Kn} {n : Int} {x : Kn} {hb : Bool} (h1 : x.1 = n) (h2 : hasB Y x = hb) : pN Y n x = !hb := by
  unfold pN
  rw [decide_eq_true h1, h2]
  rfl
theorem pN_miss {Y : List Kn} {n : Int} {x : Kn} (h1 : ¬ x.1 = n) : pN Y n x = false := by
  unfold pN
  rw [decide_eq_false h1]
  rfl
/-- The document's list, of the numbers up to some. -/
def rowsN (X Y : List Kn) (k : Nat) : List Kn := (List.range k).flatMap fun (i : Nat) => X.filter (pN Y (((i : Nat) : Int) + 1)) ++ Y.filter (pN X (((i : Nat) : Int) + 1))
theorem rowsN_succ (X Y : List Kn) (k : Nat) : rowsN X Y (k + 1) = rowsN X Y k ++ X.filter (pN Y ((k : Int) + 1)) ++ Y.filter (pN X ((k : Int) + 1)) := by
  unfold rowsN
  rw [List.range_succ, List.flatMap_append, List.append_assoc]
  simp
theorem filter_take1 {p : Kn → Bool} {X : List Kn} {i : Nat} {x : Kn} (h : X[i]? = some x) : (X.take (i + 1)).filter p = (X.take i).filter p ++ (if p x = true then [x] else []) := by
  rw [List.take_add_one, h, List.filter_append]
  by_cases hp : p x = true <;> simp [hp]
theorem ownQ_len {B : Nat} {v : Value} {l m : List Kn} {w : World} (h : OwnQ B v l w) (e : l = m) : OwnQ B v m w := e ▸ h

theorem ownQ_base {B B' : Nat} {v : Value} {l : List Kn} {w : World} (h : OwnQ B v l w) (hb : B' ≤ B) : OwnQ B' v l w := by
  refine ⟨h.1, ?_⟩
  rcases h.2 with h0 | ⟨g, cap, cur, h1, h2, h3⟩
  · exact .inl h0
  · exact .inr ⟨g, cap, cur, h1, Nat.le_trans hb h2, h3⟩

set_option maxHeartbeats 16000000 in
set_option maxRecDepth 100000 in
theorem r9_Changed (P Q : List Fa) (A B : Option Addr) (ca cb : Nat) (w : World) (hp : P.length ≤ 4096) (hq : Q.length ≤ 4096) (hP : SlF w A P) (hQ : SlF w B Q) :
    Calls Tryz.prog 18 #[.slice A P.length ca, .slice B Q.length cb] w fun e w' => (∃ v, e = .returned v ∧ OwnQ w.heap.size v (rowsN (forceL P) (forceL Q) (max P.length Q.length)) w') ∧ Below w.heap.size w w' := by
  have hXL := forceL_len P
  have hYL := forceL_len Q
  have hf1 := r9_Force P A ca w hp hP
  obtain ⟨X, hX⟩ : ∃ x, forceL P = x := ⟨_, rfl⟩
  obtain ⟨Y, hY⟩ : ∃ x, forceL Q = x := ⟨_, rfl⟩
  rw [hX] at hf1 hXL
  rw [hY] at hYL
  rw [hX, hY]
  have HYE := Lib.hid hY
  have HF1 := Lib.hid hf1
  clear hf1 hX hY
  have HQ := Lib.hid hQ
  obtain ⟨K, hK⟩ : ∃ K, max P.length Q.length = K := ⟨_, rfl⟩
  rw [hK]
  have hPK : P.length ≤ K := by omega
  have hQK : Q.length ≤ K := by omega
  have hK2 : P.length = K ∨ Q.length = K := by omega
  have hKL : K ≤ 4096 := by omega
  clear hP hQ hK
  go_enter Tryz.func18, Tryz.ntmps18
  go_wp2_with fail
  refine HF1.out.mono ?_
  rintro e w3 ⟨⟨v3, rfl, ho3⟩, hb3⟩
  obtain ⟨A3, c3, rfl, hc3, hs3⟩ := ho3.sl
  have hf2 := r9_Force Q B cb w3 hq (HQ.out.below hb3)
  rw [HYE.out] at hf2
  have HF2 := Lib.hid hf2
  clear hf2
  have HB3 := Lib.hid hb3
  have HS3 := Lib.hid hs3
  clear hb3 ho3 hc3 hs3 HF1
  go_wp2_with fail
  refine HF2.out.mono ?_
  rintro e w4 ⟨⟨v4, rfl, ho4⟩, hb4⟩
  obtain ⟨B4, c4, rfl, hc4, hs4⟩ := ho4.sl
  have HB4 : Hid (Below w.heap.size w w4) := Lib.hid (bTrans HB3.out hb4)
  have HSX : Hid (SlK w4 A3 X) := Lib.hid (Sl.below HS3.out hb4)
  have HSY : Hid (SlK w4 B4 Y) := Lib.hid hs4
  clear hb4 ho4 hc4 hs4 HF2 HS3
  go_wp2
  go_loopw [7, 8] (fun ov nv wr => ∃ k : Nat, k ≤ K ∧ nv = .int .i64 ((k : Int) + 1) ∧ Hid (OwnQ w4.heap.size ov (rowsN X Y k) wr ∧ (rowsN X Y k).length ≤ k * 10000) ∧ Hid (Below w4.heap.size w4 wr)) (fun _ nv _ => K + 1 - (intOf nv).toNat)
  case atStart => exact ⟨0, Nat.zero_le _, rfl, Lib.hid ⟨Own.nil _, Nat.zero_le _⟩, Lib.hid (Below.refl _ _)⟩
  case round =>
    obtain ⟨k, hk, rfl, HO, HB⟩ := hrel
    have hd1 : ∀ n : Nat, decide ((k : Int) + 1 ≤ (n : Int)) = decide (k + 1 ≤ n) := fun n => by congr 1; simp only [eq_iff_iff]; omega
    by_cases hlt : k < K
    · have hor : (k + 1 ≤ P.length) ∨ (¬ k + 1 ≤ P.length ∧ k + 1 ≤ Q.length) := by omega
      have HR := Lib.hid (rowsN_succ X Y k)
      obtain ⟨acc, hacc⟩ : ∃ a, rowsN X Y k = a := ⟨_, rfl⟩
      rw [hacc] at HO HR
      have hal := HO.out.2
      have HOW : Hid (OwnQ w4.heap.size u7 acc wr) := Lib.hid HO.out.1
      clear hacc HO
      rcases hor with h1 | ⟨h1, h2⟩
      · have hb1 : (k : Int) + 1 ≤ (P.length : Int) := by omega
        go_upto_region 6 with fail
        go_wp2
        go_loopw [7, 9] (fun ov iv wr => ∃ i : Nat, i ≤ X.length ∧ iv = .int .i64 i ∧ Hid (OwnQ w4.heap.size ov (acc ++ (X.take i).filter (pN Y ((k : Int) + 1))) wr) ∧ Hid (Below w4.heap.size w4 wr)) (fun _ iv _ => X.length - (intOf iv).toNat)
        case atStart => exact ⟨0, Nat.zero_le _, rfl, Lib.hid (ownQ_len HOW.out (by simp)), HB⟩
        case round =>
          obtain ⟨i, hi, rfl, HO1, HB1⟩ := hrel
          by_cases hil : i < X.length
          · obtain ⟨⟨n, f⟩, hx⟩ : ∃ x, X[i]? = some x := ⟨_, List.getElem?_eq_getElem hil⟩
            have HHAS := Lib.hid (r9_has Y B4 c4 n f wr (by omega) (Sl.below HSY.out HB1.out))
            obtain ⟨b, off, rfl, hbl, hat⟩ := HSX.out (by intro h; rw [h] at hx; simp at hx)
            have HAT : Hid (∀ W, Below w4.heap.size w4 W → ∀ j u, (encK (n, f))[j]? = some u → W.cell? ⟨b, off + i * 9 + j, none⟩ = some u) := Lib.hid fun W hW j u hu => bCell hW (hat i _ hx j u hu)
            have HT := Lib.hid (filter_take1 (p := pN Y ((k : Int) + 1)) hx)
            have HLE : ((X.take i).filter (pN Y ((k : Int) + 1))).length ≤ X.length := Nat.le_trans (List.length_filter_le _ _) (by rw [List.length_take]; omega)
            have G0 := HAT.out _ HB1.out 0 _ rfl
            have G1 := HAT.out _ HB1.out 1 _ rfl
            have G2 := HAT.out _ HB1.out 2 _ rfl
            have G3 := HAT.out _ HB1.out 3 _ rfl
            have G4 := HAT.out _ HB1.out 4 _ rfl
            have G5 := HAT.out _ HB1.out 5 _ rfl
            have G6 := HAT.out _ HB1.out 6 _ rfl
            have G7 := HAT.out _ HB1.out 7 _ rfl
            have G8 := HAT.out _ HB1.out 8 _ rfl
            simp only [Nat.add_zero] at G0
            clear hat hx
            by_cases hn : n = (k : Int) + 1
            · have bn : (n == (k : Int) + 1) = true := beq_iff_eq.2 hn
              obtain ⟨hb, hhb⟩ : ∃ x, hasB Y (n, f) = x := ⟨_, rfl⟩
              rw [hhb] at HHAS
              unfold KA at HHAS
              have HT2 : Hid ((X.take (i + 1)).filter (pN Y ((k : Int) + 1)) = (X.take i).filter (pN Y ((k : Int) + 1)) ++ (if hb = true then [] else [(n, f)])) := Lib.hid (by
                rw [HT.out, pN_hit (x := (n, f)) hn hhb]
                cases hb <;> rfl)
              clear hn hhb HT
              go_wp2_with fail
              refine HHAS.out.mono ?_
              rintro e w5 ⟨rfl, hb5⟩
              have HB5 : Hid (Below w4.heap.size w4 w5) := Lib.hid (bTrans HB1.out hb5)
              have HO5 := Lib.hid (ownQ_below HO1.out hb5)
              clear hb5 HHAS G0 G1 G2 G3 G4 G5 G6 G7 G8
              cases hb with
              | true =>
                go_wp2
                exact ⟨⟨i + 1, by omega, by go_num, Lib.hid (ownQ_len HO5.out (by rw [HT2.out]; simp)), HB5⟩, by simp [intOf]; omega⟩
              | false =>
                have G0 := HAT.out _ HB5.out 0 _ rfl
                have G1 := HAT.out _ HB5.out 1 _ rfl
                have G2 := HAT.out _ HB5.out 2 _ rfl
                have G3 := HAT.out _ HB5.out 3 _ rfl
                have G4 := HAT.out _ HB5.out 4 _ rfl
                have G5 := HAT.out _ HB5.out 5 _ rfl
                have G6 := HAT.out _ HB5.out 6 _ rfl
                have G7 := HAT.out _ HB5.out 7 _ rfl
                have G8 := HAT.out _ HB5.out 8 _ rfl
                simp only [Nat.add_zero] at G0
                have HL : (acc ++ (X.take i).filter (pN Y ((k : Int) + 1))).length + 1 ≤ 1000000000 := by rw [List.length_append]; skip; omega
                have HX : Hid (w4.heap.size ≤ w5.heap.size) := Lib.hid HB5.out.size
                go_wp2_with ((at_builtin; refine wpList_append_row encK_len encK_one rfl _ _ 43 rfl w4.heap.size 71 _ 80 Tryz.underlying43 rknownInfo rfl (by decide) _ (acc ++ (X.take i).filter (pN Y ((k : Int) + 1))) (n, f) rfl (HO5.out.alloc _) w5.heap.size 1 rfl (newsQ (n, f) w5) HL (by decide) (Nat.le_trans HX.out (Grows.of_alloc _ _).size) ?_))
                intro v6 w6 hown6 hgr6
                have HB6 : Hid (Below w4.heap.size w4 w6) := Lib.hid (belowQ (bTrans HB5.out (bAlloc w5 _)) (Nat.le_trans HX.out (Grows.of_alloc _ _).size) (HO5.out.alloc _) hgr6)
                have HO6 := Lib.hid hown6
                clear hown6 hgr6 G0 G1 G2 G3 G4 G5 G6 G7 G8
                go_wp2
                exact ⟨⟨i + 1, by omega, by go_num, Lib.hid (ownQ_len HO6.out (by rw [HT2.out]; simp)), HB6⟩, by simp [intOf]; omega⟩
            · have bn : (n == (k : Int) + 1) = false := beq_eq_false_iff_ne.2 hn
              have HT2 : Hid ((X.take (i + 1)).filter (pN Y ((k : Int) + 1)) = (X.take i).filter (pN Y ((k : Int) + 1))) := Lib.hid (by
                rw [HT.out, pN_miss (x := (n, f)) hn]
                simp)
              clear hn HT
              go_wp2
              exact ⟨⟨i + 1, by omega, by go_num, Lib.hid (ownQ_len HO1.out (by rw [HT2.out])), HB1⟩, by simp [intOf]; omega⟩
          · obtain rfl : i = X.length := by omega
            have HOX := Lib.hid (ownQ_len HO1.out (show _ = acc ++ X.filter (pN Y ((k : Int) + 1)) by rw [List.take_length]))
            have HBX := HB1
            have hxl := List.length_filter_le (pN Y ((k : Int) + 1)) X
            clear HO1 HB1
            go_wp2
            go_loopw [7, 10] (fun ov iv wr => ∃ i : Nat, i ≤ Y.length ∧ iv = .int .i64 i ∧ Hid (OwnQ w4.heap.size ov ((acc ++ X.filter (pN Y ((k : Int) + 1))) ++ (Y.take i).filter (pN X ((k : Int) + 1))) wr) ∧ Hid (Below w4.heap.size w4 wr)) (fun _ iv _ => Y.length - (intOf iv).toNat)
            case atStart => exact ⟨0, Nat.zero_le _, rfl, Lib.hid (ownQ_len HOX.out (by simp)), HBX⟩
            case round =>
              obtain ⟨i, hi, rfl, HO1, HB1⟩ := hrel
              by_cases hil : i < Y.length
              · obtain ⟨⟨n, f⟩, hx⟩ : ∃ x, Y[i]? = some x := ⟨_, List.getElem?_eq_getElem hil⟩
                have HHAS := Lib.hid (r9_has X A3 c3 n f wr (by omega) (Sl.below HSX.out HB1.out))
                obtain ⟨b, off, rfl, hbl, hat⟩ := HSY.out (by intro h; rw [h] at hx; simp at hx)
                have HAT : Hid (∀ W, Below w4.heap.size w4 W → ∀ j u, (encK (n, f))[j]? = some u → W.cell? ⟨b, off + i * 9 + j, none⟩ = some u) := Lib.hid fun W hW j u hu => bCell hW (hat i _ hx j u hu)
                have HT := Lib.hid (filter_take1 (p := pN X ((k : Int) + 1)) hx)
                have HLE : ((Y.take i).filter (pN X ((k : Int) + 1))).length ≤ Y.length := Nat.le_trans (List.length_filter_le _ _) (by rw [List.length_take]; omega)
                have G0 := HAT.out _ HB1.out 0 _ rfl
                have G1 := HAT.out _ HB1.out 1 _ rfl
                have G2 := HAT.out _ HB1.out 2 _ rfl
                have G3 := HAT.out _ HB1.out 3 _ rfl
                have G4 := HAT.out _ HB1.out 4 _ rfl
                have G5 := HAT.out _ HB1.out 5 _ rfl
                have G6 := HAT.out _ HB1.out 6 _ rfl
                have G7 := HAT.out _ HB1.out 7 _ rfl
                have G8 := HAT.out _ HB1.out 8 _ rfl
                simp only [Nat.add_zero] at G0
                clear hat hx
                by_cases hn : n = (k : Int) + 1
                · have bn : (n == (k : Int) + 1) = true := beq_iff_eq.2 hn
                  obtain ⟨hb, hhb⟩ : ∃ x, hasB X (n, f) = x := ⟨_, rfl⟩
                  rw [hhb] at HHAS
                  unfold KA at HHAS
                  have HT2 : Hid ((Y.take (i + 1)).filter (pN X ((k : Int) + 1)) = (Y.take i).filter (pN X ((k : Int) + 1)) ++ (if hb = true then [] else [(n, f)])) := Lib.hid (by
                    rw [HT.out, pN_hit (x := (n, f)) hn hhb]
                    cases hb <;> rfl)
                  clear hn hhb HT
                  go_wp2_with fail
                  refine HHAS.out.mono ?_
                  rintro e w5 ⟨rfl, hb5⟩
                  have HB5 : Hid (Below w4.heap.size w4 w5) := Lib.hid (bTrans HB1.out hb5)
                  have HO5 := Lib.hid (ownQ_below HO1.out hb5)
                  clear hb5 HHAS G0 G1 G2 G3 G4 G5 G6 G7 G8
                  cases hb with
                  | true =>
                    go_wp2
                    exact ⟨⟨i + 1, by omega, by go_num, Lib.hid (ownQ_len HO5.out (by rw [HT2.out]; simp)), HB5⟩, by simp [intOf]; omega⟩
                  | false =>
                    have G0 := HAT.out _ HB5.out 0 _ rfl
                    have G1 := HAT.out _ HB5.out 1 _ rfl
                    have G2 := HAT.out _ HB5.out 2 _ rfl
                    have G3 := HAT.out _ HB5.out 3 _ rfl
                    have G4 := HAT.out _ HB5.out 4 _ rfl
                    have G5 := HAT.out _ HB5.out 5 _ rfl
                    have G6 := HAT.out _ HB5.out 6 _ rfl
                    have G7 := HAT.out _ HB5.out 7 _ rfl
                    have G8 := HAT.out _ HB5.out 8 _ rfl
                    simp only [Nat.add_zero] at G0
                    have HL : ((acc ++ X.filter (pN Y ((k : Int) + 1))) ++ (Y.take i).filter (pN X ((k : Int) + 1))).length + 1 ≤ 1000000000 := by rw [List.length_append]; rw [List.length_append]; omega
                    have HX : Hid (w4.heap.size ≤ w5.heap.size) := Lib.hid HB5.out.size
                    go_wp2_with ((at_builtin; refine wpList_append_row encK_len encK_one rfl _ _ 43 rfl w4.heap.size 71 _ 80 Tryz.underlying43 rknownInfo rfl (by decide) _ ((acc ++ X.filter (pN Y ((k : Int) + 1))) ++ (Y.take i).filter (pN X ((k : Int) + 1))) (n, f) rfl (HO5.out.alloc _) w5.heap.size 1 rfl (newsQ (n, f) w5) HL (by decide) (Nat.le_trans HX.out (Grows.of_alloc _ _).size) ?_))
                    intro v6 w6 hown6 hgr6
                    have HB6 : Hid (Below w4.heap.size w4 w6) := Lib.hid (belowQ (bTrans HB5.out (bAlloc w5 _)) (Nat.le_trans HX.out (Grows.of_alloc _ _).size) (HO5.out.alloc _) hgr6)
                    have HO6 := Lib.hid hown6
                    clear hown6 hgr6 G0 G1 G2 G3 G4 G5 G6 G7 G8
                    go_wp2
                    exact ⟨⟨i + 1, by omega, by go_num, Lib.hid (ownQ_len HO6.out (by rw [HT2.out]; simp)), HB6⟩, by simp [intOf]; omega⟩
                · have bn : (n == (k : Int) + 1) = false := beq_eq_false_iff_ne.2 hn
                  have HT2 : Hid ((Y.take (i + 1)).filter (pN X ((k : Int) + 1)) = (Y.take i).filter (pN X ((k : Int) + 1))) := Lib.hid (by
                    rw [HT.out, pN_miss (x := (n, f)) hn]
                    simp)
                  clear hn HT
                  go_wp2
                  exact ⟨⟨i + 1, by omega, by go_num, Lib.hid (ownQ_len HO1.out (by rw [HT2.out])), HB1⟩, by simp [intOf]; omega⟩
              · obtain rfl : i = Y.length := by omega
                have HO3 := Lib.hid (ownQ_len HO1.out (show _ = rowsN X Y (k + 1) by rw [HR.out, List.take_length]))
                have HLN : Hid ((rowsN X Y (k + 1)).length ≤ (k + 1) * 10000) := Lib.hid (by
                  rw [HR.out, List.length_append, List.length_append]
                  have h1 := List.length_filter_le (pN Y ((k : Int) + 1)) X
                  have h2 := List.length_filter_le (pN X ((k : Int) + 1)) Y
                  omega)
                go_wp2
                exact ⟨⟨k + 1, by omega, by go_num, Lib.hid ⟨HO3.out, HLN.out⟩, HB1⟩, by simp [intOf]; omega⟩
      · have hb1 : ¬ (k : Int) + 1 ≤ (P.length : Int) := by omega
        have hb2 : (k : Int) + 1 ≤ (Q.length : Int) := by omega
        go_upto_region 6 with fail
        go_wp2
        go_loopw [7, 9] (fun ov iv wr => ∃ i : Nat, i ≤ X.length ∧ iv = .int .i64 i ∧ Hid (OwnQ w4.heap.size ov (acc ++ (X.take i).filter (pN Y ((k : Int) + 1))) wr) ∧ Hid (Below w4.heap.size w4 wr)) (fun _ iv _ => X.length - (intOf iv).toNat)
        case atStart => exact ⟨0, Nat.zero_le _, rfl, Lib.hid (ownQ_len HOW.out (by simp)), HB⟩
        case round =>
          obtain ⟨i, hi, rfl, HO1, HB1⟩ := hrel
          by_cases hil : i < X.length
          · obtain ⟨⟨n, f⟩, hx⟩ : ∃ x, X[i]? = some x := ⟨_, List.getElem?_eq_getElem hil⟩
            have HHAS := Lib.hid (r9_has Y B4 c4 n f wr (by omega) (Sl.below HSY.out HB1.out))
            obtain ⟨b, off, rfl, hbl, hat⟩ := HSX.out (by intro h; rw [h] at hx; simp at hx)
            have HAT : Hid (∀ W, Below w4.heap.size w4 W → ∀ j u, (encK (n, f))[j]? = some u → W.cell? ⟨b, off + i * 9 + j, none⟩ = some u) := Lib.hid fun W hW j u hu => bCell hW (hat i _ hx j u hu)
            have HT := Lib.hid (filter_take1 (p := pN Y ((k : Int) + 1)) hx)
            have HLE : ((X.take i).filter (pN Y ((k : Int) + 1))).length ≤ X.length := Nat.le_trans (List.length_filter_le _ _) (by rw [List.length_take]; omega)
            have G0 := HAT.out _ HB1.out 0 _ rfl
            have G1 := HAT.out _ HB1.out 1 _ rfl
            have G2 := HAT.out _ HB1.out 2 _ rfl
            have G3 := HAT.out _ HB1.out 3 _ rfl
            have G4 := HAT.out _ HB1.out 4 _ rfl
            have G5 := HAT.out _ HB1.out 5 _ rfl
            have G6 := HAT.out _ HB1.out 6 _ rfl
            have G7 := HAT.out _ HB1.out 7 _ rfl
            have G8 := HAT.out _ HB1.out 8 _ rfl
            simp only [Nat.add_zero] at G0
            clear hat hx
            by_cases hn : n = (k : Int) + 1
            · have bn : (n == (k : Int) + 1) = true := beq_iff_eq.2 hn
              obtain ⟨hb, hhb⟩ : ∃ x, hasB Y (n, f) = x := ⟨_, rfl⟩
              rw [hhb] at HHAS
              unfold KA at HHAS
              have HT2 : Hid ((X.take (i + 1)).filter (pN Y ((k : Int) + 1)) = (X.take i).filter (pN Y ((k : Int) + 1)) ++ (if hb = true then [] else [(n, f)])) := Lib.hid (by
                rw [HT.out, pN_hit (x := (n, f)) hn hhb]
                cases hb <;> rfl)
              clear hn hhb HT
              go_wp2_with fail
              refine HHAS.out.mono ?_
              rintro e w5 ⟨rfl, hb5⟩
              have HB5 : Hid (Below w4.heap.size w4 w5) := Lib.hid (bTrans HB1.out hb5)
              have HO5 := Lib.hid (ownQ_below HO1.out hb5)
              clear hb5 HHAS G0 G1 G2 G3 G4 G5 G6 G7 G8
              cases hb with
              | true =>
                go_wp2
                exact ⟨⟨i + 1, by omega, by go_num, Lib.hid (ownQ_len HO5.out (by rw [HT2.out]; simp)), HB5⟩, by simp [intOf]; omega⟩
              | false =>
                have G0 := HAT.out _ HB5.out 0 _ rfl
                have G1 := HAT.out _ HB5.out 1 _ rfl
                have G2 := HAT.out _ HB5.out 2 _ rfl
                have G3 := HAT.out _ HB5.out 3 _ rfl
                have G4 := HAT.out _ HB5.out 4 _ rfl
                have G5 := HAT.out _ HB5.out 5 _ rfl
                have G6 := HAT.out _ HB5.out 6 _ rfl
                have G7 := HAT.out _ HB5.out 7 _ rfl
                have G8 := HAT.out _ HB5.out 8 _ rfl
                simp only [Nat.add_zero] at G0
                have HL : (acc ++ (X.take i).filter (pN Y ((k : Int) + 1))).length + 1 ≤ 1000000000 := by rw [List.length_append]; skip; omega
                have HX : Hid (w4.heap.size ≤ w5.heap.size) := Lib.hid HB5.out.size
                go_wp2_with ((at_builtin; refine wpList_append_row encK_len encK_one rfl _ _ 43 rfl w4.heap.size 71 _ 80 Tryz.underlying43 rknownInfo rfl (by decide) _ (acc ++ (X.take i).filter (pN Y ((k : Int) + 1))) (n, f) rfl (HO5.out.alloc _) w5.heap.size 1 rfl (newsQ (n, f) w5) HL (by decide) (Nat.le_trans HX.out (Grows.of_alloc _ _).size) ?_))
                intro v6 w6 hown6 hgr6
                have HB6 : Hid (Below w4.heap.size w4 w6) := Lib.hid (belowQ (bTrans HB5.out (bAlloc w5 _)) (Nat.le_trans HX.out (Grows.of_alloc _ _).size) (HO5.out.alloc _) hgr6)
                have HO6 := Lib.hid hown6
                clear hown6 hgr6 G0 G1 G2 G3 G4 G5 G6 G7 G8
                go_wp2
                exact ⟨⟨i + 1, by omega, by go_num, Lib.hid (ownQ_len HO6.out (by rw [HT2.out]; simp)), HB6⟩, by simp [intOf]; omega⟩
            · have bn : (n == (k : Int) + 1) = false := beq_eq_false_iff_ne.2 hn
              have HT2 : Hid ((X.take (i + 1)).filter (pN Y ((k : Int) + 1)) = (X.take i).filter (pN Y ((k : Int) + 1))) := Lib.hid (by
                rw [HT.out, pN_miss (x := (n, f)) hn]
                simp)
              clear hn HT
              go_wp2
              exact ⟨⟨i + 1, by omega, by go_num, Lib.hid (ownQ_len HO1.out (by rw [HT2.out])), HB1⟩, by simp [intOf]; omega⟩
          · obtain rfl : i = X.length := by omega
            have HOX := Lib.hid (ownQ_len HO1.out (show _ = acc ++ X.filter (pN Y ((k : Int) + 1)) by rw [List.take_length]))
            have HBX := HB1
            have hxl := List.length_filter_le (pN Y ((k : Int) + 1)) X
            clear HO1 HB1
            go_wp2
            go_loopw [7, 10] (fun ov iv wr => ∃ i : Nat, i ≤ Y.length ∧ iv = .int .i64 i ∧ Hid (OwnQ w4.heap.size ov ((acc ++ X.filter (pN Y ((k : Int) + 1))) ++ (Y.take i).filter (pN X ((k : Int) + 1))) wr) ∧ Hid (Below w4.heap.size w4 wr)) (fun _ iv _ => Y.length - (intOf iv).toNat)
            case atStart => exact ⟨0, Nat.zero_le _, rfl, Lib.hid (ownQ_len HOX.out (by simp)), HBX⟩
            case round =>
              obtain ⟨i, hi, rfl, HO1, HB1⟩ := hrel
              by_cases hil : i < Y.length
              · obtain ⟨⟨n, f⟩, hx⟩ : ∃ x, Y[i]? = some x := ⟨_, List.getElem?_eq_getElem hil⟩
                have HHAS := Lib.hid (r9_has X A3 c3 n f wr (by omega) (Sl.below HSX.out HB1.out))
                obtain ⟨b, off, rfl, hbl, hat⟩ := HSY.out (by intro h; rw [h] at hx; simp at hx)
                have HAT : Hid (∀ W, Below w4.heap.size w4 W → ∀ j u, (encK (n, f))[j]? = some u → W.cell? ⟨b, off + i * 9 + j, none⟩ = some u) := Lib.hid fun W hW j u hu => bCell hW (hat i _ hx j u hu)
                have HT := Lib.hid (filter_take1 (p := pN X ((k : Int) + 1)) hx)
                have HLE : ((Y.take i).filter (pN X ((k : Int) + 1))).length ≤ Y.length := Nat.le_trans (List.length_filter_le _ _) (by rw [List.length_take]; omega)
                have G0 := HAT.out _ HB1.out 0 _ rfl
                have G1 := HAT.out _ HB1.out 1 _ rfl
                have G2 := HAT.out _ HB1.out 2 _ rfl
                have G3 := HAT.out _ HB1.out 3 _ rfl
                have G4 := HAT.out _ HB1.out 4 _ rfl
                have G5 := HAT.out _ HB1.out 5 _ rfl
                have G6 := HAT.out _ HB1.out 6 _ rfl
                have G7 := HAT.out _ HB1.out 7 _ rfl
                have G8 := HAT.out _ HB1.out 8 _ rfl
                simp only [Nat.add_zero] at G0
                clear hat hx
                by_cases hn : n = (k : Int) + 1
                · have bn : (n == (k : Int) + 1) = true := beq_iff_eq.2 hn
                  obtain ⟨hb, hhb⟩ : ∃ x, hasB X (n, f) = x := ⟨_, rfl⟩
                  rw [hhb] at HHAS
                  unfold KA at HHAS
                  have HT2 : Hid ((Y.take (i + 1)).filter (pN X ((k : Int) + 1)) = (Y.take i).filter (pN X ((k : Int) + 1)) ++ (if hb = true then [] else [(n, f)])) := Lib.hid (by
                    rw [HT.out, pN_hit (x := (n, f)) hn hhb]
                    cases hb <;> rfl)
                  clear hn hhb HT
                  go_wp2_with fail
                  refine HHAS.out.mono ?_
                  rintro e w5 ⟨rfl, hb5⟩
                  have HB5 : Hid (Below w4.heap.size w4 w5) := Lib.hid (bTrans HB1.out hb5)
                  have HO5 := Lib.hid (ownQ_below HO1.out hb5)
                  clear hb5 HHAS G0 G1 G2 G3 G4 G5 G6 G7 G8
                  cases hb with
                  | true =>
                    go_wp2
                    exact ⟨⟨i + 1, by omega, by go_num, Lib.hid (ownQ_len HO5.out (by rw [HT2.out]; simp)), HB5⟩, by simp [intOf]; omega⟩
                  | false =>
                    have G0 := HAT.out _ HB5.out 0 _ rfl
                    have G1 := HAT.out _ HB5.out 1 _ rfl
                    have G2 := HAT.out _ HB5.out 2 _ rfl
                    have G3 := HAT.out _ HB5.out 3 _ rfl
                    have G4 := HAT.out _ HB5.out 4 _ rfl
                    have G5 := HAT.out _ HB5.out 5 _ rfl
                    have G6 := HAT.out _ HB5.out 6 _ rfl
                    have G7 := HAT.out _ HB5.out 7 _ rfl
                    have G8 := HAT.out _ HB5.out 8 _ rfl
                    simp only [Nat.add_zero] at G0
                    have HL : ((acc ++ X.filter (pN Y ((k : Int) + 1))) ++ (Y.take i).filter (pN X ((k : Int) + 1))).length + 1 ≤ 1000000000 := by rw [List.length_append]; rw [List.length_append]; omega
                    have HX : Hid (w4.heap.size ≤ w5.heap.size) := Lib.hid HB5.out.size
                    go_wp2_with ((at_builtin; refine wpList_append_row encK_len encK_one rfl _ _ 43 rfl w4.heap.size 71 _ 80 Tryz.underlying43 rknownInfo rfl (by decide) _ ((acc ++ X.filter (pN Y ((k : Int) + 1))) ++ (Y.take i).filter (pN X ((k : Int) + 1))) (n, f) rfl (HO5.out.alloc _) w5.heap.size 1 rfl (newsQ (n, f) w5) HL (by decide) (Nat.le_trans HX.out (Grows.of_alloc _ _).size) ?_))
                    intro v6 w6 hown6 hgr6
                    have HB6 : Hid (Below w4.heap.size w4 w6) := Lib.hid (belowQ (bTrans HB5.out (bAlloc w5 _)) (Nat.le_trans HX.out (Grows.of_alloc _ _).size) (HO5.out.alloc _) hgr6)
                    have HO6 := Lib.hid hown6
                    clear hown6 hgr6 G0 G1 G2 G3 G4 G5 G6 G7 G8
                    go_wp2
                    exact ⟨⟨i + 1, by omega, by go_num, Lib.hid (ownQ_len HO6.out (by rw [HT2.out]; simp)), HB6⟩, by simp [intOf]; omega⟩
                · have bn : (n == (k : Int) + 1) = false := beq_eq_false_iff_ne.2 hn
                  have HT2 : Hid ((Y.take (i + 1)).filter (pN X ((k : Int) + 1)) = (Y.take i).filter (pN X ((k : Int) + 1))) := Lib.hid (by
                    rw [HT.out, pN_miss (x := (n, f)) hn]
                    simp)
                  clear hn HT
                  go_wp2
                  exact ⟨⟨i + 1, by omega, by go_num, Lib.hid (ownQ_len HO1.out (by rw [HT2.out])), HB1⟩, by simp [intOf]; omega⟩
              · obtain rfl : i = Y.length := by omega
                have HO3 := Lib.hid (ownQ_len HO1.out (show _ = rowsN X Y (k + 1) by rw [HR.out, List.take_length]))
                have HLN : Hid ((rowsN X Y (k + 1)).length ≤ (k + 1) * 10000) := Lib.hid (by
                  rw [HR.out, List.length_append, List.length_append]
                  have h1 := List.length_filter_le (pN Y ((k : Int) + 1)) X
                  have h2 := List.length_filter_le (pN X ((k : Int) + 1)) Y
                  omega)
                go_wp2
                exact ⟨⟨k + 1, by omega, by go_num, Lib.hid ⟨HO3.out, HLN.out⟩, HB1⟩, by simp [intOf]; omega⟩
    · obtain rfl : k = K := by omega
      have h1 : ¬ (k : Int) + 1 ≤ (P.length : Int) := by omega
      have h2 : ¬ (k : Int) + 1 ≤ (Q.length : Int) := by omega
      go_wp2
      go_ret
      exact ⟨⟨_, rfl, ownQ_base HO.out.1 HB4.out.size⟩, bTrans HB4.out HB.out⟩
end Go.Proofs.YtdpejolpjhlibaaGreatDoor
