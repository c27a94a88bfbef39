/- Leave's texts (gen/mklv.py): Txt0 Txt Aw. -/
import Derived.Test.YtmngghglcgmkeaaGreatDoorLvb
import Derived.Test.YtmngghglcgmkeaaGreatDoorShF
import Derived.Lib.LaidTab
import Derived.WalkSmall
import Derived.Lib.ItoaLen
import Derived.Laws.Concat
namespace Go.Proofs.YtmngghglcgmkeaaGreatDoor.Lv
open Go.RowKit Go.Sort Go.BigFrame

/-- Both tables. -/
structure Tabs (w : World) : Prop where
  civ : Tab w
  pow : Lib.TabIs Tryz.prog w "internal/strconv.uint64pow10" .u64 Lib.pow10Tab
  size : 4 ≤ w.heap.size
theorem powAt : Tryz.prog.globalNamed "internal/strconv.uint64pow10" = some 1 := by kernel_rfl
theorem Tabs.below {w w' : World} {B : Nat} (h : Tabs w) (hb : Below B w w') (hB : 4 ≤ B) : Tabs w' :=
  ⟨⟨Nat.lt_of_lt_of_le h.civ.1 hb.size, fun i hi => (hb.cell (p := ⟨0, i, none⟩) (show 0 < B by omega)).trans (h.civ.2 i hi)⟩, var?_below hb powAt (show 1 < B by omega) h.pow, Nat.le_trans h.size hb.size⟩
theorem Tabs.grows {w w' : World} (h : Tabs w) (k : Grows w w') : Tabs w' := h.below k.below h.size
theorem itoaC (n : Int) (w : World) (ht : Tabs w) (h0 : -9223372036854775808 ≤ n) (h1 : n ≤ 9223372036854775807) :
    Calls Tryz.prog 67 #[.int .i64 n] w fun e w' => e = .returned (.string ⟨(Lib.itoa n).toArray⟩) ∧ Grows w w' := Tryz.strconv_Itoa n h0 h1 w ht.pow

/-- Up to k of three numbers behind a first one. -/
def txtK (g t e l : Int) : Nat → List UInt8
  | 0 => Lib.itoa g
  | 1 => Lib.itoa g ++ 32 :: Lib.itoa t
  | 2 => Lib.itoa g ++ 32 :: Lib.itoa t ++ 32 :: Lib.itoa e
  | _ => Lib.itoa g ++ 32 :: Lib.itoa t ++ 32 :: Lib.itoa e ++ 32 :: Lib.itoa l
def txtV (g t e l : Int) : List UInt8 := txtK g t e l 3
def i64 (n : Int) : Prop := -9223372036854775808 ≤ n ∧ n ≤ 9223372036854775807

theorem eq_acc (g t e l : Int) (hz : ¬ (g = 0 ∧ t = 0 ∧ e = 0 ∧ l = 0)) (W : World) :
    (binOp .eql 94 (.agg #[.int .i64 g, .int .i64 t, .int .i64 e, .int .i64 l]) (.agg #[.int .i64 0, .int .i64 0, .int .i64 0, .int .i64 0])).run Tryz.prog W = .ok (.bool false) W := by
  by_cases h0 : g = 0
  · by_cases h1 : t = 0
    · by_cases h2 : e = 0
      · have h3 : l ≠ 0 := fun h => hz ⟨h0, h1, h2, h⟩
        subst h0 h1 h2
        go_simp
      · subst h0 h1
        go_simp
    · subst h0
      go_simp
  · go_simp
end Go.Proofs.YtmngghglcgmkeaaGreatDoor.Lv

namespace Go.Proofs.YtmngghglcgmkeaaGreatDoor.Lv
open Go.RowKit Go.Sort Go.BigFrame

theorem ret_s {l m : List UInt8} (h : l = m) : Ending.returned (.string ⟨l.toArray⟩) = .returned (.string ⟨m.toArray⟩) := by rw [h]
theorem bytes_join (a b : List UInt8) : (⟨a.toArray⟩ : ByteArray) ++ (⟨#[32]⟩ ++ ⟨b.toArray⟩) = ⟨(a ++ 32 :: b).toArray⟩ := by
  have : (⟨#[32]⟩ : ByteArray) = ⟨[32].toArray⟩ := rfl
  rw [this, ByteArray.mk_append_mk, ByteArray.mk_append_mk]; rfl
theorem txtK_len (g t e l : Int) (b0 : i64 g) (b1 : i64 t) (b2 : i64 e) (b3 : i64 l) (k : Nat) : (txtK g t e l k).length ≤ 90 := by
  have h0 := Lib.itoa_length_le g b0.1 b0.2
  have h1 := Lib.itoa_length_le t b1.1 b1.2
  have h2 := Lib.itoa_length_le e b2.1 b2.2
  have h3 := Lib.itoa_length_le l b3.1 b3.2
  unfold txtK
  split <;> simp <;> omega
def nth3 (t e l : Int) (k : Nat) : Int := [t, e, l].getD k 0
theorem txtK_succ (g t e l : Int) {k : Nat} (h : k < 3) : txtK g t e l (k + 1) = txtK g t e l k ++ 32 :: Lib.itoa (nth3 t e l k) := by
  have : k = 0 ∨ k = 1 ∨ k = 2 := by omega
  rcases this with rfl | rfl | rfl <;> simp [txtK, nth3]

set_option maxHeartbeats 1000000 in
theorem ac_Text (g t e l : Int) (w : World) (ht : Tabs w) (b0 : i64 g) (b1 : i64 t) (b2 : i64 e) (b3 : i64 l) :
    Calls Tryz.prog 36 #[.agg #[.int .i64 g, .int .i64 t, .int .i64 e, .int .i64 l]] w fun e' w' => e' = .returned (.string ⟨(txtV g t e l).toArray⟩) ∧ Grows w w' := by
  by_cases hz : g = 0 ∧ t = 0 ∧ e = 0 ∧ l = 0
  · obtain ⟨rfl, rfl, rfl, rfl⟩ := hz
    go_enter Tryz.func36, Tryz.ntmps36
    go_wp2
    go_ret
    exact ⟨ret_s (by decide +kernel), .of_alloc _ _⟩
  have hcmp := eq_acc g t e l hz
  clear hz
  have t1 := ht.grows (.of_alloc w (.cells #[.int .i64 g, .int .i64 t, .int .i64 e, .int .i64 l] 94))
  go_enter Tryz.func36, Tryz.ntmps36
  go_wp2_with fail
  refine (itoaC g _ t1 b0.1 b0.2).mono ?_
  rintro e' w1 ⟨rfl, hg1⟩
  have hb := new_cell w #[.int .i64 g, .int .i64 t, .int .i64 e, .int .i64 l] 94 (0, 0) (o := 1) rfl
  have c1 := hg1.cell (size_new _ _) (new_cell w #[.int .i64 g, .int .i64 t, .int .i64 e, .int .i64 l] 94 (0, 0) (o := 1) rfl)
  have c2 := hg1.cell (size_new _ _) (new_cell w #[.int .i64 g, .int .i64 t, .int .i64 e, .int .i64 l] 94 (0, 0) (o := 2) rfl)
  have c3 := hg1.cell (size_new _ _) (new_cell w #[.int .i64 g, .int .i64 t, .int .i64 e, .int .i64 l] 94 (0, 0) (o := 3) rfl)
  clear hb
  have HG1 := Lib.hid ((Grows.of_alloc w _).trans hg1)
  go_wp2
  obtain ⟨B, hB⟩ : ∃ x, w1.heap.size = x := ⟨_, rfl⟩
  obtain ⟨w2, hw2⟩ : ∃ x, w1.alloc (.cells #[.int .i64 t, .int .i64 e, .int .i64 l] 3) = x := ⟨_, rfl⟩
  have hb2 : Bk B 3 #[.int .i64 t, .int .i64 e, .int .i64 l] w2 := hw2 ▸ hB ▸ Bk.new w1 _ _
  have g2 : Grows w w2 := HG1.out.trans (hw2 ▸ .of_alloc _ _)
  rw [hw2, hB]
  clear hw2 hB c1 c2 c3 hg1
  have t2 := ht.grows g2
  have HB2 := Lib.hid hb2
  clear hb2
  go_loopw [3, 20] (fun sv iv wr => ∃ k : Nat, k ≤ 3 ∧ iv = .int .i64 k ∧ sv = .string ⟨(txtK g t e l k).toArray⟩ ∧ Grows w2 wr) (fun _ iv _ => 3 - (intOf iv).toNat)
  case atStart => exact ⟨0, by omega, rfl, rfl, .refl _⟩
  case round =>
    obtain ⟨k, hk, rfl, rfl, hg⟩ := hrel
    by_cases hlt : k < 3
    · have hc : wr.cell? ⟨B, k, none⟩ = some (.int .i64 (nth3 t e l k)) := by
        rw [(HB2.out.grows hg).cell k]
        have : k = 0 ∨ k = 1 ∨ k = 2 := by omega
        rcases this with rfl | rfl | rfl <;> rfl
      have hn : i64 (nth3 t e l k) := by
        have : k = 0 ∨ k = 1 ∨ k = 2 := by omega
        rcases this with rfl | rfl | rfl
        · exact b1
        · exact b2
        · exact b3
      have HK := Lib.hid (txtK_succ g t e l hlt)
      have hl1 := Lib.itoa_length_le _ hn.1 hn.2
      have hl2 := txtK_len g t e l b0 b1 b2 b3 k
      generalize nth3 t e l k = n at *
      go_wp2_with fail
      refine (itoaC n _ (t2.grows hg) hn.1 hn.2).mono ?_
      rintro e' w3 ⟨rfl, hg3⟩
      go_wp2
      exact ⟨⟨k + 1, by omega, by go_num, by rw [bytes_join, HK.out], hg.trans hg3⟩, by simp [intOf]; omega⟩
    · have h3 : k = 3 := by omega
      subst h3
      go_wp2
      go_ret
      exact ⟨rfl, g2.trans hg⟩
end Go.Proofs.YtmngghglcgmkeaaGreatDoor.Lv

namespace Go.Proofs.YtmngghglcgmkeaaGreatDoor.Lv
open Go.RowKit Go.Sort Go.BigFrame

def awL : List Mv := [(19723, 3000, 0), (19936, 0, 2000), (20120, 0, 300)]
theorem aw_chk : chkV 2024 500 3 20453 awL = 0 := by decide +kernel
theorem aw_fold : foldV 2024 500 3 20453 awL = (3000, 2300, 700, 0) := by
  unfold foldV
  rw [foldF_eq aw_chk]
  decide +kernel
theorem aw_txt : txtV 3000 2300 700 0 = [51, 48, 48, 48, 32, 50, 51, 48, 48, 32, 55, 48, 48, 32, 48] := by decide +kernel

/-- A slice whose cells are just made. -/
theorem Sl.made {α : Type} {enc : α → List Value} {k : Nat} (hk : ∀ x, (enc x).length = k) (w : World) (cs : Array Value) (T : TypeId) (L : List α) (h : cs.toList = rowOf enc L) : Sl enc k (w.alloc (.cells cs T)) (w.alloc (.cells cs T)).heap.size (some ⟨w.heap.size, 0, none⟩) L := fun _ =>
  ⟨w.heap.size, 0, rfl, size_new _ _, fun i x hx j u hu => by
    rw [Nat.zero_add]
    refine new_cell _ _ _ _ ?_
    have := rowOf_get hk L i x hx j u hu
    rw [← h] at this
    simpa using this⟩

set_option maxHeartbeats 1000000 in
theorem lv_awake (w : World) (ht : Tabs w) : Calls Tryz.prog 16 #[] w fun e w' => e = .returned (.bool true) ∧ Below w.heap.size w w' := by
  have g0 : ∀ o, Grows w (w.alloc o) := fun o => .of_alloc _ _
  have HS := Lib.hid (Sl.made encM_len w #[.int .i64 19723, .int .i64 3000, .int .i64 0, .int .i64 19936, .int .i64 0, .int .i64 2000, .int .i64 20120, .int .i64 0, .int .i64 300] 70 awL rfl)
  have HF := Lib.hid (lv_Fold_ok 2024 500 3 20453 awL (some ⟨w.heap.size, 0, none⟩) 3 (w.alloc (.cells #[.int .i64 19723, .int .i64 3000, .int .i64 0, .int .i64 19936, .int .i64 0, .int .i64 2000, .int .i64 20120, .int .i64 0, .int .i64 300] 70)) (by decide) (by decide) (by decide) (ht.civ.grows (g0 _)) HS.out aw_chk)
  rw [aw_fold] at HF
  go_enter Tryz.func16, Tryz.ntmps16
  go_wp2_with fail
  refine (HF.out).mono ?_
  rintro e w1 ⟨rfl, hb⟩
  have hz := (g0 (.cells #[.int .i64 19723, .int .i64 3000, .int .i64 0, .int .i64 19936, .int .i64 0, .int .i64 2000, .int .i64 20120, .int .i64 0, .int .i64 300] 70)).size
  have hb1 : Below w.heap.size w w1 := belowTrans (g0 _).below (belowMono hb hz)
  have t1 := ht.below hb1 ht.size
  clear hb
  go_wp2_with fail
  refine (ac_Text 3000 2300 700 0 _ (t1.grows (.of_alloc _ _)) ⟨by decide, by decide⟩ ⟨by decide, by decide⟩ ⟨by decide, by decide⟩ ⟨by decide, by decide⟩).mono ?_
  rintro e w2 ⟨rfl, hg⟩
  rw [aw_txt]
  have hb2 := Lib.hid (belowTrans hb1 (belowMono ((Grows.of_alloc _ _).trans hg).below hb1.size))
  go_wp2
  go_ret
  exact ⟨rfl, hb2.out⟩
end Go.Proofs.YtmngghglcgmkeaaGreatDoor.Lv
