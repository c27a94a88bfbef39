/- Contract of an account's text. -/
import Derived.Test.YtkbpdbfldijeeaaDoorTxt0
import Derived.Test.YtkbpdbfldijeeaaDoorBk
import Derived.Lib.ItoaLen
import Derived.Laws.Concat
namespace Go.Proofs.YtkbpdbfldijeeaaDoor
open Go.RowKit Go.Sort Go.BigFrame

theorem ret_s {l m : List UInt8} (h : l = m) : Ending.returned (.string ⟨l.toArray⟩) = .returned (.string ⟨m.toArray⟩) := by rw [h]
theorem bytes_join (a b : List UInt8) : (⟨a.toArray⟩ : ByteArray) ++ (⟨#[32]⟩ ++ ⟨b.toArray⟩) = ⟨(a ++ 32 :: b).toArray⟩ := by
  have : (⟨#[32]⟩ : ByteArray) = ⟨[32].toArray⟩ := rfl
  rw [this, ByteArray.mk_append_mk, ByteArray.mk_append_mk]; rfl
theorem txtK_len (g t e l : Int) (b0 : i64 g) (b1 : i64 t) (b2 : i64 e) (b3 : i64 l) (k : Nat) : (txtK g t e l k).length ≤ 90 := by
  have h0 := Lib.itoa_length_le g b0.1 b0.2
  have h1 := Lib.itoa_length_le t b1.1 b1.2
  have h2 := Lib.itoa_length_le e b2.1 b2.2
  have h3 := Lib.itoa_length_le l b3.1 b3.2
  unfold txtK
  split <;> simp <;> omega
def nth3 (t e l : Int) (k : Nat) : Int := [t, e, l].getD k 0
theorem txtK_succ (g t e l : Int) {k : Nat} (h : k < 3) : txtK g t e l (k + 1) = txtK g t e l k ++ 32 :: Lib.itoa (nth3 t e l k) := by
  have : k = 0 ∨ k = 1 ∨ k = 2 := by omega
  rcases this with rfl | rfl | rfl <;> simp [txtK, nth3]

set_option maxHeartbeats 1000000 in
theorem ac_Text (g t e l : Int) (w : World) (ht : Tabs w) (b0 : i64 g) (b1 : i64 t) (b2 : i64 e) (b3 : i64 l) :
    Calls Tryd.prog 16 #[.agg #[.int .i64 g, .int .i64 t, .int .i64 e, .int .i64 l]] w fun e' w' => e' = .returned (.string ⟨(txtV g t e l).toArray⟩) ∧ Grows w w' := by
  by_cases hz : g = 0 ∧ t = 0 ∧ e = 0 ∧ l = 0
  · obtain ⟨rfl, rfl, rfl, rfl⟩ := hz
    go_enter Tryd.func16, Tryd.ntmps16
    go_wp2
    go_ret
    exact ⟨ret_s (by decide +kernel), .of_alloc _ _⟩
  have hcmp := eq_acc g t e l hz
  clear hz
  have t1 := ht.grows (.of_alloc w (.cells #[.int .i64 g, .int .i64 t, .int .i64 e, .int .i64 l] 28))
  go_enter Tryd.func16, Tryd.ntmps16
  go_wp2_with fail
  refine (itoaC g _ t1 b0.1 b0.2).mono ?_
  rintro e' w1 ⟨rfl, hg1⟩
  have hb := new_cell w #[.int .i64 g, .int .i64 t, .int .i64 e, .int .i64 l] 28 (0, 0) (o := 1) rfl
  have c1 := hg1.cell (size_new _ _) (new_cell w #[.int .i64 g, .int .i64 t, .int .i64 e, .int .i64 l] 28 (0, 0) (o := 1) rfl)
  have c2 := hg1.cell (size_new _ _) (new_cell w #[.int .i64 g, .int .i64 t, .int .i64 e, .int .i64 l] 28 (0, 0) (o := 2) rfl)
  have c3 := hg1.cell (size_new _ _) (new_cell w #[.int .i64 g, .int .i64 t, .int .i64 e, .int .i64 l] 28 (0, 0) (o := 3) rfl)
  clear hb
  have HG1 := Lib.hid ((Grows.of_alloc w _).trans hg1)
  go_wp2
  obtain ⟨B, hB⟩ : ∃ x, w1.heap.size = x := ⟨_, rfl⟩
  obtain ⟨w2, hw2⟩ : ∃ x, w1.alloc (.cells #[.int .i64 t, .int .i64 e, .int .i64 l] 3) = x := ⟨_, rfl⟩
  have hb2 : Bk B 3 #[.int .i64 t, .int .i64 e, .int .i64 l] w2 := hw2 ▸ hB ▸ Bk.new w1 _ _
  have g2 : Grows w w2 := HG1.out.trans (hw2 ▸ .of_alloc _ _)
  rw [hw2, hB]
  clear hw2 hB c1 c2 c3 hg1
  have t2 := ht.grows g2
  have HB2 := Lib.hid hb2
  clear hb2
  go_loopw [3, 20] (fun sv iv wr => ∃ k : Nat, k ≤ 3 ∧ iv = .int .i64 k ∧ sv = .string ⟨(txtK g t e l k).toArray⟩ ∧ Grows w2 wr) (fun _ iv _ => 3 - (intOf iv).toNat)
  case atStart => exact ⟨0, by omega, rfl, rfl, .refl _⟩
  case round =>
    obtain ⟨k, hk, rfl, rfl, hg⟩ := hrel
    by_cases hlt : k < 3
    · have hc : wr.cell? ⟨B, k, none⟩ = some (.int .i64 (nth3 t e l k)) := by
        rw [(HB2.out.grows hg).cell k]
        have : k = 0 ∨ k = 1 ∨ k = 2 := by omega
        rcases this with rfl | rfl | rfl <;> rfl
      have hn : i64 (nth3 t e l k) := by
        have : k = 0 ∨ k = 1 ∨ k = 2 := by omega
        rcases this with rfl | rfl | rfl
        · exact b1
        · exact b2
        · exact b3
      have HK := Lib.hid (txtK_succ g t e l hlt)
      have hl1 := Lib.itoa_length_le _ hn.1 hn.2
      have hl2 := txtK_len g t e l b0 b1 b2 b3 k
      generalize nth3 t e l k = n at *
      go_wp2_with fail
      refine (itoaC n _ (t2.grows hg) hn.1 hn.2).mono ?_
      rintro e' w3 ⟨rfl, hg3⟩
      go_wp2
      exact ⟨⟨k + 1, by omega, by go_num, by rw [bytes_join, HK.out], hg.trans hg3⟩, by simp [intOf]; omega⟩
    · have h3 : k = 3 := by omega
      subst h3
      go_wp2
      go_ret
      exact ⟨rfl, g2.trans hg⟩
end Go.Proofs.YtkbpdbfldijeeaaDoor
