import Derived.Test.YtlgoaohklggcdaaGreatDoorLwj
/- The plain law of TermsCosts: a text is cut byte by byte, a weight is looked at byte by byte. -/
namespace Go.Proofs.YtlgoaohklggcdaaGreatDoor
open Go.RowKit Go.Sort

/-- A text is cut up to byte i: pieces I are whole, the one under way begins at byte r. -/
structure Cs (B : List UInt8) (i r : Nat) (I : List (List UInt8)) : Prop where
  pc : pieces 32 (B.take i) = I ++ [(B.drop r).take (i - r)]
  le : r ≤ i
theorem Cs.start (B : List UInt8) : Cs B 0 0 [] := ⟨by simp [pieces], Nat.le_refl _⟩
theorem take_byte {B : List UInt8} {i : Nat} {b : UInt8} (h : B[i]? = some b) : B.take (i + 1) = B.take i ++ [b] := by rw [List.take_add_one, h]; rfl
theorem Cs.byte {B : List UInt8} {i r : Nat} {I : List (List UInt8)} {b : UInt8} (h : Cs B i r I) (hb : B[i]? = some b) (hne : b ≠ 32) : Cs B (i + 1) r I := by
  refine ⟨?_, Nat.le_succ_of_le h.le⟩
  rw [take_byte hb, pieces_snoc h.pc hne]
  congr 2
  have hle := h.le
  have e : i + 1 - r = (i - r) + 1 := by omega
  have hd : (B.drop r)[i - r]? = some b := by rw [List.getElem?_drop, show r + (i - r) = i by omega]; exact hb
  rw [e, List.take_add_one, hd]
  rfl
theorem Cs.cut {B : List UInt8} {i r : Nat} {I : List (List UInt8)} (h : Cs B i r I) (hb : B[i]? = some 32) : Cs B (i + 1) (i + 1) (I ++ [(B.drop r).take (i - r)]) := by
  refine ⟨?_, Nat.le_refl _⟩
  rw [take_byte hb, pieces_snoc_sep, h.pc, Nat.sub_self, List.take_zero]
theorem Cs.fin {B : List UInt8} {r : Nat} {I : List (List UInt8)} (h : Cs B B.length r I) : pieces 32 B = I ++ [(B.drop r).take (B.length - r)] := by
  have := h.pc
  rwa [List.take_length] at this
theorem Cs.piece {B : List UInt8} {i r : Nat} {I : List (List UInt8)} (h : Cs B i r I) (he : i = B.length ∨ B[i]? = some 32) : (pieces 32 B)[I.length]? = some ((B.drop r).take (i - r)) ∧ (pieces 32 B).take I.length = I := by
  rcases he with rfl | hb
  · rw [h.fin]
    exact ⟨by simp, by simp⟩
  · have hi := (List.getElem?_eq_some_iff.1 hb).1
    have hB : B = B.take i ++ (32 :: B.drop (i + 1)) := by
      have h1 : B.drop i = 32 :: B.drop (i + 1) := by
        rw [List.drop_eq_getElem_cons hi]
        congr 1
        exact Option.some.inj ((List.getElem?_eq_getElem hi).symm.trans hb)
      rw [← h1, List.take_append_drop]
    obtain ⟨J, z, x, t, h1, h2, h3⟩ := pieces_append 32 (B.take i) (32 :: B.drop (i + 1))
    rw [← hB] at h3
    have h4 : pieces 32 (32 :: B.drop (i + 1)) = [] :: pieces 32 (B.drop (i + 1)) := by rw [pieces, if_pos rfl]
    rw [h4] at h2
    injection h2 with h5 _
    rw [h.pc] at h1
    obtain ⟨e1, e2⟩ := List.append_inj' h1 rfl
    injection e2 with e2 _
    rw [h3, ← h5, List.append_nil, ← e1, ← e2]
    exact ⟨by simp, by simp⟩
/-- The first colon of a text. -/
theorem cut_at {c : UInt8} : ∀ {l : List UInt8} {j : Nat}, c ∉ l.take j → (l[j]? = some c → cutB c l = (l.take j, l.drop (j + 1), true)) ∧ (j = l.length → cutB c l = (l, [], false))
  | [], j, _ => ⟨fun h => by simp at h, fun _ => rfl⟩
  | b :: l, 0, _ => ⟨fun h => by
      have e : b = c := by simpa using h
      rw [cutB, if_pos e]
      rfl, fun h => by simp at h⟩
  | b :: l, j + 1, hn => by
    rw [List.take_succ_cons, List.mem_cons, not_or] at hn
    obtain ⟨h1, h2⟩ := cut_at hn.2
    have hb : ¬ b = c := fun e => hn.1 e.symm
    constructor
    · intro h
      rw [cutB, if_neg hb, h1 (by simpa using h)]
      rfl
    · intro h
      rw [cutB, if_neg hb, h2 (by simpa using h)]
theorem numL_cons (n : Nat) (b : UInt8) (l : List UInt8) : numL n (b :: l) = numL (10 * n + (b.toNat - 48)) l := by
  conv => lhs; unfold numL
theorem numL_pow : ∀ (l : List UInt8) (n : Nat), n * 10 ^ l.length ≤ numL n l
  | [], n => by
    rw [List.length_nil, Nat.pow_zero, Nat.mul_one]
    exact Nat.le_refl _
  | b :: l, n => by
    have := numL_pow l (10 * n + (b.toNat - 48))
    rw [numL_cons, List.length_cons, Nat.pow_succ]
    refine Nat.le_trans ?_ this
    rw [Nat.mul_comm (10 ^ l.length) 10, ← Nat.mul_assoc, Nat.mul_comm n 10]
    exact Nat.mul_le_mul_right _ (Nat.le_add_right _ _)
/-- What makes digits a weight. -/
def digW (d : List UInt8) : Bool := decide (1 ≤ d.length) && decide (d.length ≤ 7) && !(d.head? == some 48) && d.all digC && decide (numL 0 d ≤ 1000000)
theorem tens_ok (d : List UInt8) : (match tensO d 1000000 with | some v => decide (v ≠ 0) | none => false) = digW d := by
  unfold tensO digW
  cases d with
  | nil => simp [neat]
  | cons b l =>
    by_cases hd : (b :: l).all digC = true
    · have hb : digC b = true := by simpa using (List.all_eq_true.1 hd) b (List.mem_cons_self ..)
      have hb2 : 48 ≤ b.toNat ∧ b.toNat ≤ 57 := of_decide_eq_true hb
      by_cases h48 : b = 48
      · subst h48
        cases l with
        | nil => decide
        | cons c l => simp [neat]
      · have hbn : 49 ≤ b.toNat := by
          have : b.toNat ≠ 48 := fun e => h48 (UInt8.toNat_inj.1 (by rw [e]; rfl))
          omega
        have hne : neat (b :: l) = true := by simp [neat, h48]
        have hge := numL_pow l (10 * 0 + (b.toNat - 48))
        have hnum : numL 0 (b :: l) = numL (10 * 0 + (b.toNat - 48)) l := numL_cons _ _ _
        have hpos : 0 < 10 ^ l.length := Nat.pow_pos (by decide)
        have hmul : 10 ^ l.length ≤ (10 * 0 + (b.toNat - 48)) * 10 ^ l.length := Nat.le_mul_of_pos_left _ (by omega)
        have hall : 10 ^ l.length ≤ numL 0 (b :: l) := Nat.le_trans hmul (hnum ▸ hge)
        by_cases hn : numL 0 (b :: l) ≤ 1000000
        · have hl : l.length ≤ 6 := by
            apply Decidable.byContradiction
            intro hc
            have h7 : 10 ^ 7 ≤ 10 ^ l.length := Nat.pow_le_pow_right (by decide) (by omega)
            have h8 := Nat.le_trans h7 hall
            have h9 : (10 : Nat) ^ 7 = 10000000 := by decide
            omega
          rw [if_pos ⟨hne, hd, hn⟩]
          have hv : numL 0 (b :: l) ≠ 0 := by omega
          simp only [hd, hn, decide_true, Bool.and_true, List.head?_cons, List.length_cons]
          simp [hv, h48]
          omega
        · rw [if_neg (fun h => hn h.2.2)]
          simp [hn]
    · rw [if_neg (fun h => hd h.2.1)]
      simp only [Bool.not_eq_true] at hd
      rw [hd]
      simp
theorem cost_step {n : Nat} {b : UInt8} (hb : digC b = true) (hn : n < 100000000) : costStep n b = ((10 * n + (b.toNat - 48) : Nat) : Int) := by
  have h := of_decide_eq_true hb
  unfold costStep
  have e1 : wrap64 (10 * (n : Int)) = 10 * (n : Int) := by unfold wrap64; omega
  rw [e1]
  have e2 : ((b.toNat : Int) - 48) % 256 = (b.toNat : Int) - 48 := by omega
  rw [e2]
  have e3 : wrap64 (10 * (n : Int) + ((b.toNat : Int) - 48)) = 10 * (n : Int) + ((b.toNat : Int) - 48) := by unfold wrap64; omega
  rw [e3]
  omega
theorem cost_num : ∀ (l : List UInt8) (n : Nat), l.all digC = true → (n + 1) * 10 ^ l.length ≤ 10000000 → l.foldl costStep (n : Int) = (numL n l : Int)
  | [], n, _, _ => rfl
  | b :: l, n, hd, hn => by
    rw [List.all_cons, Bool.and_eq_true] at hd
    have hb := of_decide_eq_true hd.1
    have hp : 1 ≤ 10 ^ l.length := Nat.pow_pos (by decide)
    rw [List.length_cons, Nat.pow_succ] at hn
    have h1 : (n + 1) * 10 ≤ 10000000 := by
      have : (n + 1) * 10 ≤ (n + 1) * (10 ^ l.length * 10) := Nat.mul_le_mul_left _ (by omega)
      omega
    rw [List.foldl_cons, cost_step hd.1 (by omega), numL_cons]
    refine cost_num l _ hd.2 ?_
    refine Nat.le_trans ?_ hn
    rw [Nat.mul_comm (10 ^ l.length) 10, ← Nat.mul_assoc]
    exact Nat.mul_le_mul_right _ (by omega)
theorem costV_num {d : List UInt8} (hd : d.all digC = true) (hl : d.length ≤ 7) : costV d = (numL 0 d : Int) := by
  refine cost_num d 0 hd ?_
  have : 10 ^ d.length ≤ 10 ^ 7 := Nat.pow_le_pow_right (by decide) hl
  omega
/-- Weights so far. -/
structure Gd (I : List (List UInt8)) : Prop where
  al : I.all weightB = true
  nd : (I.map wName).Nodup
  le : I.length ≤ 64
theorem Gd.nil : Gd [] := ⟨rfl, List.nodup_nil, Nat.zero_le _⟩
theorem Gd.more {I : List (List UInt8)} {z : List UInt8} (h : Gd I) (h1 : weightB z = true) (h2 : wName z ∉ I.map wName) (h3 : I.length + 1 ≤ 64) : Gd (I ++ [z]) := by
  refine ⟨by rw [List.all_append, h.al]; simp [h1], ?_, by simpa using h3⟩
  rw [List.map_append, List.map_cons, List.map_nil]
  exact List.nodup_append.2 ⟨h.nd, by simp, fun a ha b hb => by
    rw [List.mem_singleton] at hb
    rintro rfl
    exact h2 (hb ▸ ha)⟩
theorem Gd.fin {B : List UInt8} {I : List (List UInt8)} (h : Gd I) (hp : pieces 32 B = I) : weightsB B = true ∧ costsL B = I.map costP := by
  unfold weightsB costsL
  rw [hp, h.al, decide_eq_true h.nd, decide_eq_true h.le]
  exact ⟨rfl, rfl⟩
theorem bad_long {B : List UInt8} {I : List (List UInt8)} {z : List UInt8} (hz : (pieces 32 B)[I.length]? = some z) (h : 64 < I.length + 1) : weightsB B = false := by
  have := (List.getElem?_eq_some_iff.1 hz).1
  unfold weightsB
  rw [decide_eq_false (p := (pieces 32 B).length ≤ 64) (by omega), Bool.and_false]
theorem chk_cost {s : ByteArray} (hs : s.size ≤ 4096) : chkF (costFa s) = if weightsB (ls s) = true then 0 else 3 := by
  unfold chkF costFa
  have h1 : ¬ 4096 < s.size := by omega
  have hE : ls ⟨#[]⟩ = [] := rfl
  simp [firmB, daysE, codeB, lowN, highN, textB, h1, hE]
  cases weightsB (ls s) <;> rfl
end Go.Proofs.YtlgoaohklggcdaaGreatDoor
