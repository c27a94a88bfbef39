/- Contracts of the reference's text of an account. -/
import Derived.Test.YtkbpdbfldijeeaaDoorTxt
import Derived.WalkLawsBesides
import Derived.WalkSpells
import Derived.Laws.IdiomStrings
namespace Go.Proofs.YtkbpdbfldijeeaaDoor
open Go.RowKit Go.Sort Go.BigFrame

def numRel (n : Nat) (m : Nat) (S : List UInt8) : Prop := (S = [] ∧ m = n) ∨ (S ≠ [] ∧ ((m = 0 ∧ Lib.decDigits n = S) ∨ (0 < m ∧ Lib.decDigits n = Lib.decDigits m ++ S)))
theorem decDigits_step {m : Nat} (h : ¬ m < 10) : Lib.decDigits m = Lib.decDigits (m / 10) ++ [UInt8.ofNat (48 + m % 10)] := by rw [Lib.decDigits, dif_neg h]
theorem decDigits_small {m : Nat} (h : m < 10) : Lib.decDigits m = [UInt8.ofNat (48 + m % 10)] := by rw [Lib.decDigits, dif_pos h, Nat.mod_eq_of_lt h]
theorem numRel_step {n m : Nat} {S : List UInt8} (h : numRel n m S) (hc : S = [] ∨ 0 < m) : numRel n (m / 10) (UInt8.ofNat (48 + m % 10) :: S) := by
  refine .inr ⟨by simp, ?_⟩
  by_cases h10 : m < 10
  · refine .inl ⟨by omega, ?_⟩
    rcases h with ⟨rfl, rfl⟩ | ⟨h0, ⟨rfl, _⟩ | ⟨hm, h1⟩⟩
    · exact decDigits_small h10
    · rcases hc with hc | hc
      · exact absurd hc h0
      · omega
    · rw [h1, decDigits_small h10]; rfl
  · refine .inr ⟨by omega, ?_⟩
    rcases h with ⟨rfl, rfl⟩ | ⟨h0, ⟨rfl, _⟩ | ⟨hm, h1⟩⟩
    · rw [decDigits_step h10]
    · omega
    · rw [h1, decDigits_step h10]; simp
theorem numRel_end {n m : Nat} {S : List UInt8} (h : numRel n m S) (h1 : S ≠ []) (h2 : ¬ 0 < m) : Lib.decDigits n = S := by
  rcases h with ⟨rfl, _⟩ | ⟨_, ⟨_, h3⟩ | ⟨h3, _⟩⟩
  · exact absurd rfl h1
  · exact h3
  · exact absurd h3 h2
theorem numRel_le {n m : Nat} {S : List UInt8} (h : numRel n m S) : S.length ≤ (Lib.decDigits n).length := by
  rcases h with ⟨rfl, _⟩ | ⟨_, ⟨_, h3⟩ | ⟨_, h3⟩⟩
  · simp
  · rw [h3]; exact Nat.le_refl _
  · rw [h3]; simp

theorem digit_byte {m : Int} (h0 : 0 ≤ m) : ((UInt8.ofNat (48 + m.toNat % 10)).toNat : Int) = 48 + m % 10 := by
  rw [UInt8.toNat_ofNat']; omega
/-- string([]byte{b}), the slice just made. -/
theorem byte_string (m : Int) (h0 : 0 ≤ m) (W : World) : (convert 73 9 (.slice (some ⟨W.heap.size, 0, none⟩) 1 1)).run Tryd.prog (W.alloc (.cells #[.int .u8 (48 + m % 10)] 5)) = .ok (.string ⟨[UInt8.ofNat (48 + m.toNat % 10)].toArray⟩) (W.alloc (.cells #[.int .u8 (48 + m % 10)] 5)) :=
  run_convert_bytes_back _ 73 9 5 ⟨W.heap.size, 0, none⟩ 1 [UInt8.ofNat (48 + m.toNat % 10)] Tryd.underlying73 Tryd.underlying5 Tryd.underlying9 (fun j hj => by
    have : j = 0 := by simp at hj; omega
    subst this
    have := new_cell W #[.int .u8 (48 + m % 10)] 5 (0, 0) (o := 0) (v := .int .u8 (48 + m % 10)) rfl
    have e : ((UInt8.ofNat (48 + m.toNat % 10)).toNat : Int) = 48 + m % 10 := digit_byte h0
    show (W.alloc _).cell? ⟨W.heap.size, 0, none⟩ = some (.int .u8 ((UInt8.ofNat (48 + m.toNat % 10)).toNat : Int))
    rw [e, this])
theorem size_cons (c : UInt8) (S : List UInt8) : (⟨(c :: S).toArray⟩ : ByteArray).size = S.length + 1 := by simp [ByteArray.size]
theorem cons_bytes (c : UInt8) (S : List UInt8) : (⟨[c].toArray⟩ : ByteArray) ++ ⟨S.toArray⟩ = ⟨(c :: S).toArray⟩ := by rw [ByteArray.mk_append_mk]; rfl

set_option maxHeartbeats 1000000 in
set_option maxRecDepth 100000 in
theorem rf_number_pos (n : Int) (w : World) (hn0 : 0 ≤ n) (hn : n ≤ 9223372036854775807) : Calls Tryd.prog 30 #[.int .i64 n] w fun e w' => e = .returned (.string ⟨(Lib.itoa n).toArray⟩) ∧ Grows w w' := by
  have hlen := Lib.itoa_length_le n (by omega) (by omega)
  have HI : Hid (Lib.itoa n = Lib.decDigits n.toNat) := Lib.hid (by unfold Lib.itoa; rw [if_neg (by omega)])
  rw [HI.out] at hlen
  go_enter Tryd.func30, Tryd.ntmps30
  go_wp2
  go_loopw [0, 3] (fun nv sv wr => ∃ (m : Int) (S : List UInt8), 0 ≤ m ∧ m ≤ n ∧ nv = .int .i64 m ∧ sv = .string ⟨S.toArray⟩ ∧ Hid (numRel n.toNat m.toNat S) ∧ Grows w wr) (fun nv sv _ => (intOf nv).toNat + (match sv with | .string s => if s.size = 0 then 1 else 0 | _ => 0))
  case atStart => exact ⟨n, [], hn0, Int.le_refl _, rfl, rfl, Lib.hid (.inl ⟨rfl, rfl⟩), .refl _⟩
  case round =>
    obtain ⟨m, S, hm0, hm, rfl, rfl, HR, hg⟩ := hrel
    have hS := numRel_le HR.out
    have hconv := byte_string m hm0 wr
    have HRS := fun h => numRel_step HR.out h
    have hmd : m.toNat / 10 = (m / 10).toNat := by omega
    rw [hmd] at HRS
    clear hmd
    generalize UInt8.ofNat (48 + m.toNat % 10) = c at *
    have HC := Lib.hid (cons_bytes c S)
    have HSZ := Lib.hid (size_cons c S)
    have HRT := Lib.hid HRS
    clear HRS
    by_cases h0 : S = []
    · have HR2 := Lib.hid (HRT.out (.inl h0))
      subst h0
      clear HRT
      go_wp2
      refine ⟨⟨m / 10, [c], by omega, by omega, rfl, by rw [← HC.out]; rfl, HR2, hg.trans (.of_alloc _ _)⟩, ?_⟩
      rw [show ((⟨#[c]⟩ : ByteArray) ++ ⟨#[]⟩) = ⟨[c].toArray⟩ from HC.out]
      show (m / 10).toNat + (if (⟨[c].toArray⟩ : ByteArray).size = 0 then 1 else 0) < m.toNat + (if (⟨#[]⟩ : ByteArray).size = 0 then 1 else 0)
      rw [if_neg (by rw [size_cons]; omega), if_pos (show (⟨#[]⟩ : ByteArray).size = 0 from rfl)]
      omega
    · have hne : S.isEmpty = false := by cases S <;> simp_all
      have hsz : S.length ≠ 0 := by cases S <;> simp_all
      by_cases hpos : 0 < m
      · have HR2 := Lib.hid (HRT.out (.inr (by omega)))
        clear HRT
        go_wp2
        refine ⟨⟨m / 10, c :: S, by omega, by omega, rfl, by rw [← HC.out], HR2, hg.trans (.of_alloc _ _)⟩, ?_⟩
        rw [show ((⟨#[c]⟩ : ByteArray) ++ ⟨S.toArray⟩) = ⟨(c :: S).toArray⟩ from HC.out]
        show (m / 10).toNat + (if (⟨(c :: S).toArray⟩ : ByteArray).size = 0 then 1 else 0) < m.toNat + (if (⟨S.toArray⟩ : ByteArray).size = 0 then 1 else 0)
        rw [if_neg (by rw [size_cons]; omega), if_neg (by show ¬ S.toArray.size = 0; simpa using h0)]
        omega
      · have HE := Lib.hid (numRel_end HR.out h0 (by omega))
        clear HRT
        go_wp2
        go_ret
        exact ⟨ret_s (by rw [HI.out, HE.out]), hg⟩

theorem rf_number (n : Int) (w : World) (hn0 : -9223372036854775808 < n) (hn : n ≤ 9223372036854775807) : Calls Tryd.prog 30 #[.int .i64 n] w fun e w' => e = .returned (.string ⟨(Lib.itoa n).toArray⟩) ∧ Grows w w' := by
  by_cases h : n < 0
  · have HP := Lib.hid (rf_number_pos (-n) w (by omega) (by omega))
    have hlen := Lib.itoa_length_le (-n) (by omega) (by omega)
    have HI : Hid (Lib.itoa n = 45 :: Lib.itoa (-n)) := Lib.hid (by unfold Lib.itoa; rw [if_pos h, if_neg (by omega)]; congr 2; omega)
    have HC := Lib.hid (cons_bytes 45 (Lib.itoa (-n)))
    go_enter Tryd.func30, Tryd.ntmps30
    go_wp2_with fail
    refine (HP.out).mono ?_
    rintro e w1 ⟨rfl, hg⟩
    go_wp2
    go_ret
    exact ⟨by rw [HI.out, ← HC.out]; rfl, hg⟩
  · exact rf_number_pos n w (by omega) hn

theorem txt_bytes (a b c d : List UInt8) : ((((((⟨a.toArray⟩ : ByteArray) ++ ⟨#[32]⟩) ++ ⟨b.toArray⟩) ++ ⟨#[32]⟩) ++ ⟨c.toArray⟩) ++ ⟨#[32]⟩) ++ ⟨d.toArray⟩ = ⟨(a ++ 32 :: b ++ 32 :: c ++ 32 :: d).toArray⟩ := by
  have : (⟨#[32]⟩ : ByteArray) = ⟨[32].toArray⟩ := rfl
  rw [this]
  simp only [ByteArray.mk_append_mk]
  simp

set_option maxHeartbeats 2000000 in
set_option maxRecDepth 100000 in
theorem rf_Text (g t e l : Int) (w : World) (b0 : -9223372036854775808 < g ∧ g ≤ 9223372036854775807) (b1 : -9223372036854775808 < t ∧ t ≤ 9223372036854775807) (b2 : -9223372036854775808 < e ∧ e ≤ 9223372036854775807) (b3 : -9223372036854775808 < l ∧ l ≤ 9223372036854775807) :
    Calls Tryd.prog 17 #[.agg #[.int .i64 g, .int .i64 t, .int .i64 e, .int .i64 l]] w fun e' w' => e' = .returned (.string ⟨(txtV g t e l).toArray⟩) ∧ Grows w w' := by
  have l0 := Lib.itoa_length_le g (by omega) (by omega)
  have l1 := Lib.itoa_length_le t (by omega) (by omega)
  have l2 := Lib.itoa_length_le e (by omega) (by omega)
  have l3 := Lib.itoa_length_le l (by omega) (by omega)
  have HT : Hid (txtV g t e l = Lib.itoa g ++ 32 :: Lib.itoa t ++ 32 :: Lib.itoa e ++ 32 :: Lib.itoa l) := Lib.hid rfl
  have HB := Lib.hid (txt_bytes (Lib.itoa g) (Lib.itoa t) (Lib.itoa e) (Lib.itoa l))
  have HX0 := Lib.hid (fun W => rf_number g W b0.1 b0.2)
  have HX1 := Lib.hid (fun W => rf_number t W b1.1 b1.2)
  have HX2 := Lib.hid (fun W => rf_number e W b2.1 b2.2)
  have HX3 := Lib.hid (fun W => rf_number l W b3.1 b3.2)
  clear b0 b1 b2 b3
  go_enter Tryd.func17, Tryd.ntmps17
  go_wp2_with fail
  obtain ⟨B, hB⟩ : ∃ B, w.heap.size = B := ⟨_, rfl⟩
  obtain ⟨wa, hwa⟩ : ∃ x, w.alloc (.cells #[.int .i64 g, .int .i64 t, .int .i64 e, .int .i64 l] 35 (0, 0)) = x := ⟨_, rfl⟩
  have ga : Grows w wa := hwa ▸ .of_alloc _ _
  have sa : B < wa.heap.size := hwa ▸ hB ▸ size_new _ _
  have c0 := cellN sa (show wa.cell? ⟨B, 0, none⟩ = some (.int .i64 g) from hwa ▸ hB ▸ new_cell _ _ _ _ rfl)
  have c1 := cellN sa (show wa.cell? ⟨B, 1, none⟩ = some (.int .i64 t) from hwa ▸ hB ▸ new_cell _ _ _ _ rfl)
  have c2 := cellN sa (show wa.cell? ⟨B, 2, none⟩ = some (.int .i64 e) from hwa ▸ hB ▸ new_cell _ _ _ _ rfl)
  have c3 := cellN sa (show wa.cell? ⟨B, 3, none⟩ = some (.int .i64 l) from hwa ▸ hB ▸ new_cell _ _ _ _ rfl)
  rw [hwa, hB]
  clear hwa hB
  generalize hg : Lib.itoa g = sg at *
  generalize ht : Lib.itoa t = st at *
  generalize he : Lib.itoa e = se at *
  generalize hl : Lib.itoa l = sl at *
  clear hg ht he hl
  refine wp_region_quiet_grown (by kernel_rfl) (by kernel_rfl) ?_
  repeat (go_big_quiet_step ((first | (with_reducible refine grown_any (HX0.out _)) | (with_reducible refine grown_any (HX1.out _)) | (with_reducible refine grown_any (HX2.out _)) | (with_reducible refine grown_any (HX3.out _)))))
  refine wpQuiet_nil ?_
  intro wb hw'
  obtain ⟨p, hw''⟩ := hw'
  have gb : Grows wa wb := ⟨p.n, p.os, hw''⟩
  clear hw'' p c0 c1 c2 c3
  go_wp2
  go_ret
  exact ⟨by rw [HT.out, ← HB.out]; rfl, ga.trans gb⟩
end Go.Proofs.YtkbpdbfldijeeaaDoor
