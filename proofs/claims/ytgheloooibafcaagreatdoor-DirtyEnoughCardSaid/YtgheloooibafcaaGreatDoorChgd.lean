/- Merged from: St20 St21 Pl1 St22. -/
import Derived.Test.YtgheloooibafcaaGreatDoorKeys
import Derived.Maps.Keyed
import Derived.Laws.AppendOwnNone
import Derived.Deep.RegionHeld3
/- The known facts of a list that are not in another one. -/
namespace Go.Proofs.YtgheloooibafcaaGreatDoor
open Go.RowKit Go.Sort Go.WideMaps Go.Maps Go.WideElems

/-- Known facts in a slice. -/
abbrev SlK (w : World) (A : Option Addr) (L : List Kn) : Prop := Sl encK 9 w w.heap.size A L
abbrev OMk (w : World) (b n : Nat) (D : DataW Unit) : Prop := w.ownsMap Tryz.prog 41 (plainElem (H := Unit) Tryz.prog 4) b n D
set_option maxHeartbeats 4000000 in
set_option maxRecDepth 100000 in
theorem st_but (X Y : List Kn) (A B : Option Addr) (ca cb : Nat) (w : World) (hx : X.length ≤ 100000) (hy : Y.length ≤ 100000) (hX : SlK w A X) (hY : SlK w B Y) (fX : ∀ x ∈ X, FitK x) (fY : ∀ y ∈ Y, FitK y) :
    Calls Tryz.prog 47 #[.slice A X.length ca, .slice B Y.length cb] w fun e w' => (∃ v, e = .returned v ∧ Own encK 9 41 w.heap.size v (X.filter fun x => decide (kbs x ∉ Y.map kbs)) w') ∧ Below w.heap.size w w' := by
  have HX := Lib.hid hX
  have HY := Lib.hid hY
  have FX := Lib.hid fX
  have FY := Lib.hid fY
  obtain ⟨mb, hmb⟩ : ∃ x, w.heap.size = x := ⟨_, rfl⟩
  obtain ⟨w2, hw2⟩ : ∃ x, w.alloc (.map #[] 0) = x := ⟨_, rfl⟩
  have HOM : Hid (OMk w2 mb 0 (.map [])) := Lib.hid (by rw [← hw2, ← hmb]; exact World.ownsMap_made _ _ _ _)
  have HB2 : Hid (Below w.heap.size w w2) := Lib.hid (by rw [← hw2]; exact bAlloc _ _)
  have HMB : Hid (w.heap.size ≤ mb) := Lib.hid (by omega)
  have hmm := @run_makeMap Tryz.prog
  clear hX hY fX fY
  go_enter Tryz.func47, Tryz.ntmps47
  go_wp2
  clear hmm hw2 hmb
  go_loopw [7, 16] (fun _ iv wr => ∃ (k : Nat) (D : DataW Unit), k ≤ Y.length ∧ iv = .int .i64 k ∧ Hid (OMk wr mb k D) ∧ Hid (Has D (Y.take k)) ∧ Hid (Below w.heap.size w wr)) (fun _ iv _ => Y.length - (intOf iv).toNat)
  case atStart => exact ⟨0, .map [], Nat.zero_le _, rfl, HOM, Lib.hid Has.start, HB2⟩
  case round =>
    obtain ⟨k, D, hk, rfl, HO, HH, HB⟩ := hrel
    by_cases hlt : k < Y.length
    · obtain ⟨b, off, rfl, hbl, hc⟩ := HY.out (by intro h; simp [h] at hlt)
      obtain ⟨y, hyk⟩ : ∃ x, Y[k]? = some x := ⟨_, List.getElem?_eq_getElem hlt⟩
      have C0 : wr.cell? ⟨b, off + k * 9, none⟩ = some (.int .i64 y.1) := (HB.out.cell (p := ⟨b, off + k * 9, none⟩) hbl).trans (hc k y hyk 0 _ rfl)
      have C1 : wr.cell? ⟨b, off + k * 9 + 1, none⟩ = some (.int .u32 y.2.id) := (HB.out.cell (p := ⟨b, off + k * 9 + 1, none⟩) hbl).trans (hc k y hyk 1 _ rfl)
      have C2 : wr.cell? ⟨b, off + k * 9 + 2, none⟩ = some (.int .u32 y.2.pe) := (HB.out.cell (p := ⟨b, off + k * 9 + 2, none⟩) hbl).trans (hc k y hyk 2 _ rfl)
      have C3 : wr.cell? ⟨b, off + k * 9 + 3, none⟩ = some (.int .i64 y.2.ki) := (HB.out.cell (p := ⟨b, off + k * 9 + 3, none⟩) hbl).trans (hc k y hyk 3 _ rfl)
      have C4 : wr.cell? ⟨b, off + k * 9 + 4, none⟩ = some (.int .i64 y.2.fr) := (HB.out.cell (p := ⟨b, off + k * 9 + 4, none⟩) hbl).trans (hc k y hyk 4 _ rfl)
      have C5 : wr.cell? ⟨b, off + k * 9 + 5, none⟩ = some (.int .i64 y.2.to) := (HB.out.cell (p := ⟨b, off + k * 9 + 5, none⟩) hbl).trans (hc k y hyk 5 _ rfl)
      have C6 : wr.cell? ⟨b, off + k * 9 + 6, none⟩ = some (.string y.2.co) := (HB.out.cell (p := ⟨b, off + k * 9 + 6, none⟩) hbl).trans (hc k y hyk 6 _ rfl)
      have C7 : wr.cell? ⟨b, off + k * 9 + 7, none⟩ = some (.int .i64 y.2.nu) := (HB.out.cell (p := ⟨b, off + k * 9 + 7, none⟩) hbl).trans (hc k y hyk 7 _ rfl)
      have C8 : wr.cell? ⟨b, off + k * 9 + 8, none⟩ = some (.string y.2.tx) := (HB.out.cell (p := ⟨b, off + k * 9 + 8, none⟩) hbl).trans (hc k y hyk 8 _ rfl)
      have HFY := Lib.hid (FY.out y (List.mem_of_getElem? hyk))
      have HKY := Lib.hid (keyOfKn y HFY.out.n HFY.out.f)
      have HH2 : Hid (Has (D.put (keyK y) (.lit (.bool true))) (Y.take (k + 1))) := Lib.hid (by rw [List.take_add_one, hyk]; exact HH.out.more y)
      have HOA : Hid (∀ o, OMk (wr.alloc o) mb k D) := Lib.hid (fun o => HO.out.alloc o)
      clear hc hyk
      go_wp2_with (at_mapUpdate; refine wpList_mapUpdate_own _ rfl _ _ _ 163 rfl 41 4 keyedKn Tryz.underlying163 _ mb k _ rfl (HOA.out _) (by unfold maxLen; omega) _ _ _ rfl rfl HKY.out _ [] (plainElem_bool Tryz.underlying4 true) ?_)
      intro we HOE hge
      have HBE : Hid (Below w.heap.size w we) := Lib.hid ((bTrans HB.out (bAlloc wr _)).grown hge (Nat.le_trans HB.out.size (Grows.of_alloc _ _).size) (fun j hj => by cases hj; exact HMB.out))
      have HOE2 := Lib.hid HOE
      clear HOE hge
      go_wp2
      exact ⟨⟨k + 1, _, by omega, by go_num, HOE2, HH2, HBE⟩, by simp [intOf]; omega⟩
    · obtain rfl : k = Y.length := by omega
      go_wp2
      have HHD : Hid (Has D Y) := Lib.hid (by have := HH.out; rwa [List.take_length] at this)
      obtain ⟨z1, hz1⟩ : ∃ x, wr.heap.size = x := ⟨_, rfl⟩
      have HZ1 : Hid (w.heap.size ≤ z1 ∧ mb < z1) := Lib.hid (by have h1 := HB.out.size; have h2 := HO.out.lt; omega)
      have HZ2 : Hid (z1 ≤ wr.heap.size) := Lib.hid (by omega)
      clear hz1
      go_loopw [8, 10, 11, 12, 25] (fun ov _ _ _ iv ws => ∃ k : Nat, k ≤ X.length ∧ iv = .int .i64 k ∧ Hid (Own encK 9 41 z1 ov ((X.take k).filter fun x => decide (kbs x ∉ Y.map kbs)) ws) ∧ Hid (OMk ws mb Y.length D) ∧ Hid (Below w.heap.size w ws) ∧ Hid (z1 ≤ ws.heap.size)) (fun _ _ _ _ iv _ => X.length - (intOf iv).toNat)
      case atStart => exact ⟨0, Nat.zero_le _, rfl, Lib.hid (Own.nil _), HO, HB, HZ2⟩
      case round =>
        obtain ⟨k, hk2, rfl, HW, HO5, HB5, HS5⟩ := hrel
        by_cases hlt2 : k < X.length
        · obtain ⟨b, off, rfl, hbl, hc⟩ := HX.out (by intro h; simp [h] at hlt2)
          obtain ⟨x, hxk⟩ : ∃ x, X[k]? = some x := ⟨_, List.getElem?_eq_getElem hlt2⟩
          have C0 : wr.cell? ⟨b, off + k * 9, none⟩ = some (.int .i64 x.1) := (HB5.out.cell (p := ⟨b, off + k * 9, none⟩) hbl).trans (hc k x hxk 0 _ rfl)
          have C1 : wr.cell? ⟨b, off + k * 9 + 1, none⟩ = some (.int .u32 x.2.id) := (HB5.out.cell (p := ⟨b, off + k * 9 + 1, none⟩) hbl).trans (hc k x hxk 1 _ rfl)
          have C2 : wr.cell? ⟨b, off + k * 9 + 2, none⟩ = some (.int .u32 x.2.pe) := (HB5.out.cell (p := ⟨b, off + k * 9 + 2, none⟩) hbl).trans (hc k x hxk 2 _ rfl)
          have C3 : wr.cell? ⟨b, off + k * 9 + 3, none⟩ = some (.int .i64 x.2.ki) := (HB5.out.cell (p := ⟨b, off + k * 9 + 3, none⟩) hbl).trans (hc k x hxk 3 _ rfl)
          have C4 : wr.cell? ⟨b, off + k * 9 + 4, none⟩ = some (.int .i64 x.2.fr) := (HB5.out.cell (p := ⟨b, off + k * 9 + 4, none⟩) hbl).trans (hc k x hxk 4 _ rfl)
          have C5 : wr.cell? ⟨b, off + k * 9 + 5, none⟩ = some (.int .i64 x.2.to) := (HB5.out.cell (p := ⟨b, off + k * 9 + 5, none⟩) hbl).trans (hc k x hxk 5 _ rfl)
          have C6 : wr.cell? ⟨b, off + k * 9 + 6, none⟩ = some (.string x.2.co) := (HB5.out.cell (p := ⟨b, off + k * 9 + 6, none⟩) hbl).trans (hc k x hxk 6 _ rfl)
          have C7 : wr.cell? ⟨b, off + k * 9 + 7, none⟩ = some (.int .i64 x.2.nu) := (HB5.out.cell (p := ⟨b, off + k * 9 + 7, none⟩) hbl).trans (hc k x hxk 7 _ rfl)
          have C8 : wr.cell? ⟨b, off + k * 9 + 8, none⟩ = some (.string x.2.tx) := (HB5.out.cell (p := ⟨b, off + k * 9 + 8, none⟩) hbl).trans (hc k x hxk 8 _ rfl)
          obtain ⟨kb, hkb⟩ : ∃ x, wr.heap.size = x := ⟨_, rfl⟩
          obtain ⟨w4, hw4⟩ : ∃ q, wr.alloc (.cells #[.int .i64 x.1, .int .u32 x.2.id, .int .u32 x.2.pe, .int .i64 x.2.ki, .int .i64 x.2.fr, .int .i64 x.2.to, .string x.2.co, .int .i64 x.2.nu, .string x.2.tx] 41) = q := ⟨_, rfl⟩
          have HF4 : Hid (Bk kb 41 #[.int .i64 x.1, .int .u32 x.2.id, .int .u32 x.2.pe, .int .i64 x.2.ki, .int .i64 x.2.fr, .int .i64 x.2.to, .string x.2.co, .int .i64 x.2.nu, .string x.2.tx] w4) := Lib.hid (by rw [← hw4, ← hkb]; exact Bk.new _ _ _)
          have HO4 : Hid (OMk w4 mb Y.length D) := Lib.hid (by rw [← hw4]; exact HO5.out.alloc _)
          have HW4 : Hid (Own encK 9 41 z1 u8 ((X.take k).filter fun x => decide (kbs x ∉ Y.map kbs)) w4) := Lib.hid (by rw [← hw4]; exact HW.out.alloc _)
          have HB4 : Hid (Below w.heap.size w w4) := Lib.hid (by rw [← hw4]; exact bTrans HB5.out (bAlloc wr _))
          have HFX := Lib.hid (FX.out x (List.mem_of_getElem? hxk))
          obtain ⟨vv, ps, hrun, _⟩ := HO4.out.look_ok keyedKn Tryz.underlying163 (z := .bool false) (by kernel_rfl) (plainElem_bool Tryz.underlying4 false) (keyOfKn x HFX.out.n HFX.out.f)
          rw [HHD.out.at_ x] at hrun
          have hxk2 : X.take (k + 1) = X.take k ++ [x] := by rw [List.take_add_one, hxk]; rfl
          have HS4 : Hid (z1 ≤ w4.heap.size) := Lib.hid (by rw [← hw4]; exact Nat.le_trans HS5.out (Grows.of_alloc _ _).size)
          clear hc hxk
          go_upto_region 11 with fail
          clear C0 C1 C2 C3 C4 C5 C6 C7 C8 hw4 hkb
          have F0 : w4.cell? ⟨kb, 0, none⟩ = some (.int .i64 x.1) := HF4.out.cell 0
          have F1 : w4.cell? ⟨kb, 1, none⟩ = some (.int .u32 x.2.id) := HF4.out.cell 1
          have F2 : w4.cell? ⟨kb, 2, none⟩ = some (.int .u32 x.2.pe) := HF4.out.cell 2
          have F3 : w4.cell? ⟨kb, 3, none⟩ = some (.int .i64 x.2.ki) := HF4.out.cell 3
          have F4 : w4.cell? ⟨kb, 4, none⟩ = some (.int .i64 x.2.fr) := HF4.out.cell 4
          have F5 : w4.cell? ⟨kb, 5, none⟩ = some (.int .i64 x.2.to) := HF4.out.cell 5
          have F6 : w4.cell? ⟨kb, 6, none⟩ = some (.string x.2.co) := HF4.out.cell 6
          have F7 : w4.cell? ⟨kb, 7, none⟩ = some (.int .i64 x.2.nu) := HF4.out.cell 7
          have F8 : w4.cell? ⟨kb, 8, none⟩ = some (.string x.2.tx) := HF4.out.cell 8
          have hrun2 : (Instr.lookup 163 (.map (some mb)) (.agg #[.int .i64 x.1, .int .u32 x.2.id, .int .u32 x.2.pe, .int .i64 x.2.ki, .int .i64 x.2.fr, .int .i64 x.2.to, .string x.2.co, .int .i64 x.2.nu, .string x.2.tx]) true).run Tryz.prog w4 = .ok (.tuple #[vv, .bool (decide (kbs x ∈ Y.map kbs))]) w4 := hrun
          clear hrun
          have HXS := Lib.hid hxk2
          clear hxk2
          obtain ⟨mm, hmm2⟩ : ∃ q, decide (kbs x ∈ Y.map kbs) = q := ⟨_, rfl⟩
          rw [hmm2] at hrun2
          have HMM : Hid (decide (kbs x ∉ Y.map kbs) = !mm) := Lib.hid (by rw [← hmm2, decide_not])
          clear hmm2
          cases mm with
          | true =>
            have HN : Hid ((X.take (k + 1)).filter (fun x => decide (kbs x ∉ Y.map kbs)) = (X.take k).filter fun x => decide (kbs x ∉ Y.map kbs)) := Lib.hid (by rw [HXS.out, List.filter_append, List.filter_cons, HMM.out]; simp)
            go_wp2
            exact ⟨⟨k + 1, by omega, by go_num, Lib.hid (by rw [HN.out]; exact HW4.out), HO4, HB4, HS4⟩, by simp [intOf]; omega⟩
          | false =>
            have HN : Hid ((X.take (k + 1)).filter (fun x => decide (kbs x ∉ Y.map kbs)) = ((X.take k).filter fun x => decide (kbs x ∉ Y.map kbs)) ++ [x]) := Lib.hid (by rw [HXS.out, List.filter_append, List.filter_cons, HMM.out]; simp)
            have HL : ((X.take k).filter fun x => decide (kbs x ∉ Y.map kbs)).length + 1 ≤ 1000000000 := by have := List.length_filter_le (fun x => decide (kbs x ∉ Y.map kbs)) (X.take k); rw [List.length_take] at this; omega
            go_wp2_with ((at_builtin; refine wpList_append_row encK_len encK_one rfl _ _ 32 rfl z1 41 _ 80 Tryz.underlying32 knownInfo rfl (by decide) _ _ x rfl (HW4.out.alloc _) w4.heap.size 1 rfl (newsK x w4) HL (by decide) (Nat.le_trans HS4.out (Grows.of_alloc _ _).size) ?_))
            intro v6 w6 hown6 hgr6
            have HB6 : Hid (Below w.heap.size w w6) := Lib.hid (below_grown (bTrans HB4.out (bAlloc w4 _)) (Nat.le_trans HB4.out.size (Grows.of_alloc _ _).size) (own_base (HW4.out.alloc _) HZ1.out.1) hgr6)
            have HS6 : Hid (z1 ≤ w6.heap.size) := Lib.hid (Nat.le_trans (Nat.le_trans HS4.out (Grows.of_alloc _ _).size) hgr6.size)
            have HO6 : Hid (OMk w6 mb Y.length D) := Lib.hid ((HO4.out.alloc _).kept hgr6 (HW4.out.far HZ1.out.2))
            have HW6 := Lib.hid hown6
            clear hown6 hgr6
            go_wp2
            exact ⟨⟨k + 1, by omega, by go_num, Lib.hid (by rw [HN.out]; simpa using HW6.out), HO6, HB6, HS6⟩, by simp [intOf]; omega⟩
        · obtain rfl : k = X.length := by omega
          go_wp2
          go_ret
          exact ⟨⟨_, rfl, by have := own_base HW.out HZ1.out.1; rwa [List.take_length] at this⟩, HB5.out⟩
end Go.Proofs.YtgheloooibafcaaGreatDoor

/- slices.SortStableFunc at known facts: short slices stay; the contract of the others under one name; a row of the call's own, sorted; one row appended to another. -/
namespace Go.Proofs.YtgheloooibafcaaGreatDoor
open Go.RowKit Go.Sort

theorem insShort (A : Option Addr) (n cap : Nat) (f : Value) (w : World) (hn : n ≤ 1) : Calls Tryz.prog 123 #[.slice A n cap, .int .i64 0, .int .i64 n, f] w fun e w' => e = .returned (.tuple #[]) ∧ w = w' := by
  have h1 : ¬ ((1 : Int) < (n : Int)) := by omega
  go_enter Tryz.func123, Tryz.ntmps123
  go_wp2
  refine wp_loop_rounds 1 ?_
  rw [rounds_succ]
  go_wp2
  go_end0
  exact ⟨rfl, rfl⟩
theorem stableShort (A : Option Addr) (n cap : Nat) (f : Value) (w : World) (hn : n ≤ 1) : Calls Tryz.prog 83 #[.slice A n cap, .int .i64 n, f] w fun e w' => e = .returned (.tuple #[]) ∧ w = w' := by
  have h1 : ¬ ((20 : Int) ≤ (n : Int)) := by omega
  have h2 : ¬ ((20 : Int) < (n : Int)) := by omega
  go_enter Tryz.func83, Tryz.ntmps83
  go_wp2
  refine wp_loop_rounds 1 ?_
  rw [rounds_succ]
  go_wp2_with fail
  refine (insShort A n cap f _ hn).mono ?_
  rintro e w1 ⟨rfl, rfl⟩
  go_wp2
  refine wp_loop_rounds 1 ?_
  rw [rounds_succ]
  go_wp2
  go_end0
  exact ⟨rfl, rfl⟩
/-- A short slice stays. -/
theorem sortShort (A : Option Addr) (n cap : Nat) (f : Value) (w : World) (hn : n ≤ 1) : Calls Tryz.prog 48 #[.slice A n cap, f] w fun e w' => e = .returned (.tuple #[]) ∧ w = w' := by
  go_enter Tryz.func48, Tryz.ntmps48
  go_wp2_with fail
  refine (stableShort A n cap f _ hn).mono ?_
  rintro e w1 ⟨rfl, rfl⟩
  go_wp2
  go_end0
  exact ⟨rfl, rfl⟩

abbrev RowK (g cap : Nat) (l : List Kn) (w : World) : Prop := Rw encK 9 41 g cap l w
/-- What the stable sort does, by the numbers. -/
def SortOk : Prop := ∀ (g cap : Nat) (O : List Kn) (w : World), O.length ≤ 1000000 → RowK g cap O w →
    Calls Tryz.prog 48 #[.slice (some ⟨g, 0, none⟩) O.length cap, .func (.func 49) #[] #[]] w fun e w' =>
      e = .returned (.tuple #[]) ∧ w.grownBy w' (some g) ∧ RowK g cap (ss lt O) w'
theorem ss_short {α : Type} {lt : α → α → Bool} {l : List α} (h : l.length ≤ 1) : ss lt l = l := by
  match l, h with
  | [], _ => rfl
  | [x], _ => exact ss_one x
/-- The sort of a row of the call's own. -/
theorem sortOwn (B N : Nat) (v : Value) (L : List Kn) (w : World) (hN : L.length = N) (hn : N ≤ 1000000) (hs : N ≤ 1 ∨ SortOk) (h : Own encK 9 41 B v L w) :
    ∃ A cap, v = .slice A N cap ∧ N ≤ cap ∧ Calls Tryz.prog 48 #[.slice A N cap, .func (.func 49) #[] #[]] w fun e w' =>
      e = .returned (.tuple #[]) ∧ w.grownBy w' v.ownBlock ∧ SlK w' A (ss lt L) := by
  subst hN
  have hrow : ∀ g cap, RowK g cap L w → SlK w (some ⟨g, 0, none⟩) L := fun g cap hr => fun _ => ⟨g, 0, rfl, hr.lt, fun i x hx j u hu => by rw [Nat.zero_add]; exact hr.cell hx hu⟩
  by_cases h1 : L.length ≤ 1
  · rw [ss_short h1]
    by_cases h0 : L = []
    · subst h0
      rcases h.2 with ⟨rfl, _⟩ | ⟨g, cap, cur, rfl, hb, hg, hn0, hcm, hcs, ht⟩
      · exact ⟨none, 0, rfl, Nat.le_refl _, (sortShort none 0 0 _ w (by omega)).mono fun e w' hh => ⟨hh.1, hh.2 ▸ World.grownBy.refl _ _, fun hl => absurd rfl hl⟩⟩
      · exact ⟨some ⟨g, 0, none⟩, cap, rfl, Nat.zero_le _, (sortShort (some ⟨g, 0, none⟩) 0 cap _ w (by omega)).mono fun e w' hh => ⟨hh.1, hh.2 ▸ World.grownBy.refl _ _, fun hl => absurd rfl hl⟩⟩
    · obtain ⟨g, cap, rfl, hb, hr⟩ := h.row encK_len h0
      exact ⟨some ⟨g, 0, none⟩, cap, rfl, hr.le, (sortShort (some ⟨g, 0, none⟩) L.length cap _ w h1).mono fun e w' hh => ⟨hh.1, hh.2 ▸ World.grownBy.refl _ _, hh.2 ▸ hrow g cap hr⟩⟩
  · have hok := hs.resolve_left h1
    obtain ⟨g, cap, rfl, hb, hr⟩ := h.row encK_len (fun h => h1 (by rw [h]; exact Nat.zero_le _))
    exact ⟨some ⟨g, 0, none⟩, cap, rfl, hr.le, (hok g cap L w hn hr).mono fun e w' hh => ⟨hh.1, hh.2.1, fun _ => ⟨g, 0, rfl, hh.2.2.lt, fun i x hx j u hu => by rw [Nat.zero_add]; exact hh.2.2.cell hx hu⟩⟩⟩

/-- A row of one's own behind another one. -/
theorem wpList_append_rows {α : Type} {enc : α → List Value} {k : Nat} {P : Program} {ops : Array Oper} {rest : List Oper} {o : Oper} {a : Act} {w : World} {Q : Exit → Act → World → Prop}
    (hk : ∀ x, (enc x).length = k) (h1 : ∀ x, ∀ u ∈ enc x, u.oneCell' = true) (hgd : o.guard = none) (s x : Operand) (t : TypeId)
    (ho : o.op = .call { callee := .builtin .append, args := #[s, x], argTypes := #[t, t] })
    (base base2 : Nat) (e : TypeId) (z : Value) (bytes : Nat) (ht : P.underlying t = some (.slice e)) (hi : (P.info? e).map (fun i => (i.zero, i.size, i.bytes)) = some (some z, k, bytes)) (hzs : z.cells.size = k) (hsz : 0 < k)
    (v v2 : Value) (l m : List α) (hs : a.eval s = v) (hown : Own enc k e base v l w) (hx : a.eval x = v2) (hown2 : Own enc k e base2 v2 m w)
    (hn : l.length + m.length ≤ 1000000000) (hb : bytes ≤ 1000) (hbase : base ≤ w.heap.size)
    (h : ∀ v' w', Own enc k e base v' (l ++ m) w' → w.grownBy w' v.ownBlock → wpList P ops Q rest (a.put o.dst v') w') : wpList P ops Q (o :: rest) a w := by
  obtain ⟨i, hi1, hz, hsize, hby⟩ := info_parts hi
  rcases hown2.2 with ⟨rfl, h0⟩ | ⟨g, cap, cur, rfl, hb2, hg, hn0, hcm, hcs, htk⟩
  · obtain rfl : m = [] := List.length_eq_zero_iff.1 h0
    rw [List.append_nil] at h
    exact wpList_append_own_none hgd s x t ho base e i k ht hi1 v l.length (rowOf enc l) hs hown hx (h v w hown (World.grownBy.refl _ _))
  · refine wpList_append_own w hgd s x t ho base e i z k bytes ht hi1 hz hsize hby hzs hsz v l.length (rowOf enc l) hs hown ⟨g, 0, none⟩ m.length cap (rowOf enc m) hx (rowOf_length hk m) (fun j u hu => ?_) (fun u hu => ?_) (by simp only [maxLen]; omega) ?_ hbase (fun v' w' h2 h3 _ => h v' w' ?_ h3)
    · have h2 : (cur.toList.take (m.length * k))[j]? = some u := by rw [htk]; exact hu
      rw [List.getElem?_take] at h2
      have h3 : cur[j]? = some u := by
        split at h2
        · simpa using h2
        · cases h2
      have h4 : w.cell? ⟨g, j, none⟩ = some u := by simp [World.cell?, hg, h3]
      unfold Addr.add
      split
      · rename_i h0; subst h0; exact h4
      · simpa using h4
    · obtain ⟨y, _, hy⟩ := List.mem_flatMap.1 hu
      exact h1 y u hy
    · exact Nat.le_trans (Nat.mul_le_mul hn hb) (by omega)
    · unfold Own
      rw [List.length_append, rowOf_append]; exact h2
end Go.Proofs.YtgheloooibafcaaGreatDoor

/- The plain laws of the store: what is told stays; views; imports again; cancels. -/
namespace Go.Proofs.YtgheloooibafcaaGreatDoor
open Go.RowKit Go.Sort

/-- The store behind facts, told one by one. -/
def tellL (L l : List Fa) : List Fa := l.foldl (fun L f => (addL L f).1) L
theorem tellL_nil (L : List Fa) : tellL L [] = L := rfl
theorem tellL_cons (L : List Fa) (f : Fa) (l : List Fa) : tellL L (f :: l) = tellL (addL L f).1 l := rfl
theorem tellL_snoc (L l : List Fa) (f : Fa) : tellL L (l ++ [f]) = (addL (tellL L l) f).1 := by unfold tellL; rw [List.foldl_append]; rfl
theorem tellL_take {L l : List Fa} {k : Nat} {f : Fa} (h : l[k]? = some f) : tellL L (l.take (k + 1)) = (addL (tellL L (l.take k)) f).1 := by
  rw [List.take_add_one, h]; exact tellL_snoc _ _ _
theorem addL_or (L : List Fa) (f : Fa) : (∃ e, e ≠ 0 ∧ addL L f = (L, e)) ∨ (addL L f = (L ++ [f], 0) ∧ L.length < 4096 ∧ chkF f = 0 ∧ placeI L f.id < 0 ∧ canE L f = 0) := by
  unfold addL
  by_cases h1 : 4096 ≤ L.length
  · rw [if_pos h1]; exact .inl ⟨5, by omega, rfl⟩
  rw [if_neg h1]
  by_cases h2 : chkF f ≠ 0
  · rw [if_pos h2]; exact .inl ⟨_, h2, rfl⟩
  rw [if_neg h2]
  by_cases h3 : 0 ≤ placeI L f.id
  · rw [if_pos h3]; exact .inl ⟨7, by omega, rfl⟩
  rw [if_neg h3]
  by_cases h4 : canE L f ≠ 0
  · rw [if_pos h4]; exact .inl ⟨_, h4, rfl⟩
  rw [if_neg h4]
  exact .inr ⟨rfl, by omega, by simpa using h2, by omega, by simpa using h4⟩
theorem addL_pre (L : List Fa) (f : Fa) : L <+: (addL L f).1 := by
  rcases addL_or L f with ⟨e, _, h⟩ | ⟨h, _⟩
  · rw [h]; exact List.prefix_refl _
  · rw [h]; exact ⟨[f], rfl⟩
theorem tellL_pre : ∀ (l L : List Fa), L <+: tellL L l
  | [], _ => List.prefix_refl _
  | f :: l, L => (addL_pre L f).trans (tellL_pre l _)
theorem addL_len1 (L : List Fa) (f : Fa) : (addL L f).1.length ≤ L.length + 1 := by
  rcases addL_or L f with ⟨e, _, h⟩ | ⟨h, _⟩
  · rw [h]; exact Nat.le_succ _
  · rw [h]; simp
theorem tellL_len : ∀ (l L : List Fa), (tellL L l).length ≤ L.length + l.length
  | [], _ => Nat.le_refl _
  | f :: l, L => by
    have h1 := tellL_len l (addL L f).1
    have h2 := addL_len1 L f
    rw [tellL_cons, List.length_cons]; omega
theorem addL_all {p : Fa → Prop} {L : List Fa} {f : Fa} (hL : ∀ x ∈ L, p x) (hf : p f) : ∀ x ∈ (addL L f).1, p x := by
  rcases addL_or L f with ⟨e, _, h⟩ | ⟨h, _⟩
  · rw [h]; exact hL
  · rw [h]
    intro x hx
    rcases List.mem_append.1 hx with h | h
    · exact hL x h
    · rw [List.mem_singleton.1 h]; exact hf
theorem tellL_all {p : Fa → Prop} : ∀ {l L : List Fa}, (∀ x ∈ L, p x) → (∀ x ∈ l, p x) → ∀ x ∈ tellL L l, p x
  | [], _, hL, _ => hL
  | f :: l, L, hL, hl => tellL_all (l := l) (L := (addL L f).1) (addL_all hL (hl f (by simp))) (fun x hx => hl x (List.mem_cons_of_mem _ hx))

/-- The facts in force. -/
def forceL (L : List Fa) : List Kn := chosen notCancel L L.length
/-- Those that aren't in another list. -/
def butL (X Y : List Kn) : List Kn := X.filter fun x => decide (kbs x ∉ Y.map kbs)
/-- What is in force in just one of two views, side by side. -/
def bothL (X Y : List Kn) : List Kn := butL X Y ++ butL Y X
theorem butL_self (X : List Kn) : butL X X = [] := by
  unfold butL
  rw [List.filter_eq_nil_iff]
  intro x hx
  simp only [decide_eq_true_eq, Decidable.not_not]
  exact List.mem_map.2 ⟨x, hx, rfl⟩
theorem bothL_self (X : List Kn) : bothL X X = [] := by unfold bothL; rw [butL_self]; rfl
theorem butL_len (X Y : List Kn) : (butL X Y).length ≤ X.length := List.length_filter_le _ _
theorem bothL_len (X Y : List Kn) : (bothL X Y).length ≤ X.length + Y.length := by
  unfold bothL
  rw [List.length_append]
  have := butL_len X Y
  have := butL_len Y X
  omega
theorem mem_chosen {p : Fa → Bool} {L : List Fa} {k : Nat} {x : Kn} (h : x ∈ chosen p L k) : ∃ i : Nat, i < k ∧ x.1 = (i : Int) + 1 ∧ L[i]? = some x.2 ∧ takenB L ((i : Int) + 1) = false ∧ p x.2 = true := by
  unfold chosen at h
  obtain ⟨i, hi, he⟩ := List.mem_filterMap.1 h
  cases hL : L[i]? with
  | none => rw [hL] at he; simp at he
  | some f =>
    rw [hL] at he
    by_cases h1 : takenB L ((i : Int) + 1) = true
    · simp [h1] at he
    · by_cases h2 : p f = true
      · simp only [if_neg h1, if_pos h2, Option.some.injEq] at he
        subst he
        exact ⟨i, List.mem_range.1 hi, rfl, hL, by simpa using h1, h2⟩
      · simp [h1, h2] at he
theorem chosen_fit {p : Fa → Bool} {L : List Fa} {k : Nat} (hL : ∀ f ∈ L, Fit f) (hk : k ≤ 1000000) : ∀ x ∈ chosen p L k, FitK x := by
  intro x hx
  obtain ⟨i, hi, h1, h2, _⟩ := mem_chosen hx
  exact ⟨by omega, hL _ (List.mem_of_getElem? h2)⟩
theorem forceL_len (L : List Fa) : (forceL L).length ≤ L.length := chosen_len _ _ _

/-! ### An import, again -/
theorem idxI_append {id : Int} {L M : List Fa} {j : Nat} (h : 0 ≤ idxI id j L) : idxI id j (L ++ M) = idxI id j L := by
  induction L generalizing j with
  | nil => exact absurd h (by unfold idxI; omega)
  | cons f L ih =>
    rw [List.cons_append]
    unfold idxI at h ⊢
    by_cases hf : f.id = id
    · rw [if_pos hf, if_pos hf]
    · rw [if_neg hf] at h
      rw [if_neg hf, if_neg hf]
      exact ih h
theorem idxI_new {id : Int} {L : List Fa} {f : Fa} {j : Nat} (h : idxI id j L < 0) (hf : f.id = id) : idxI id j (L ++ [f]) = ((j + L.length : Nat) : Int) := by
  induction L generalizing j with
  | nil => unfold idxI; simp [hf]
  | cons g L ih =>
    rw [List.cons_append]
    unfold idxI at h ⊢
    by_cases hg : g.id = id
    · rw [if_pos hg] at h; omega
    · rw [if_neg hg] at h
      rw [if_neg hg, ih h, List.length_cons]
      congr 1; omega
theorem hit_more {O : List Fa} {f : Fa} (g : Fa) (h : hitB O f = true) : hitB (O ++ [g]) f = true := by
  unfold hitB at h ⊢
  rw [Bool.and_eq_true, decide_eq_true_eq] at h
  obtain ⟨h1, h2⟩ := h
  have e : placeI (O ++ [g]) f.id = placeI O f.id := by
    unfold placeI at h1 ⊢
    by_cases h0 : f.id = 0
    · rw [if_pos h0] at h1; omega
    · rw [if_neg h0] at h1 ⊢
      rw [if_neg h0]
      exact idxI_append h1
  rw [e, Bool.and_eq_true, decide_eq_true_eq]
  refine ⟨h1, ?_⟩
  cases hx : O[(placeI O f.id).toNat]? with
  | none => rw [hx] at h2; simp at h2
  | some y =>
    rw [hx] at h2
    have hlt := (List.getElem?_eq_some_iff.1 hx).1
    rw [List.getElem?_append_left hlt, hx]
    exact h2
theorem sameF_self (f : Fa) : sameF f f = true := by unfold sameF; simp
theorem hit_new {O : List Fa} {f : Fa} (h0 : f.id ≠ 0) (h : placeI O f.id < 0) : hitB (O ++ [f]) f = true := by
  have e : placeI (O ++ [f]) f.id = (O.length : Int) := by
    unfold placeI at h ⊢
    rw [if_neg h0] at h
    rw [if_neg h0, idxI_new h rfl]
    congr 1; omega
  unfold hitB
  rw [e]
  simp [sameF_self]
theorem imp_hits : ∀ (l : List Fa) (L O N : List Fa) (p q : Nat), impL L O p l = (N, q, 0) → (∀ f ∈ l, f.id ≠ 0) → (∀ x, hitB O x = true → hitB N x = true) ∧ ∀ f ∈ l, hitB N f = true
  | [], L, O, N, p, q, h, _ => by
    unfold impL at h
    simp only [Prod.mk.injEq] at h
    obtain ⟨rfl, _⟩ := h
    exact ⟨fun _ h => h, fun _ h => absurd h (by simp)⟩
  | f :: l, L, O, N, p, q, h, hid => by
    by_cases hh : hitB O f = true
    · rw [impL_hit L O p f l hh] at h
      obtain ⟨h1, h2⟩ := imp_hits l L O N _ q h (fun g hg => hid g (List.mem_cons_of_mem _ hg))
      refine ⟨h1, fun g hg => ?_⟩
      rcases List.mem_cons.1 hg with rfl | hg
      · exact h1 _ hh
      · exact h2 g hg
    · rcases addL_or O f with ⟨e, he, hN⟩ | ⟨hN, _, _, hp, _⟩
      · rw [impL_add L O p f l (by simpa using hh) hN, if_pos he] at h
        simp only [Prod.mk.injEq] at h
        exact absurd h.2.2 he
      · rw [impL_add L O p f l (by simpa using hh) hN, if_neg (by simp)] at h
        obtain ⟨h1, h2⟩ := imp_hits l L (O ++ [f]) N _ q h (fun g hg => hid g (List.mem_cons_of_mem _ hg))
        refine ⟨fun x hx => h1 x (hit_more f hx), fun g hg => ?_⟩
        rcases List.mem_cons.1 hg with rfl | hg
        · exact h1 _ (hit_new (hid _ (by simp)) hp)
        · exact h2 g hg
theorem imp_all : ∀ (l : List Fa) (L N : List Fa) (p : Nat), (∀ f ∈ l, hitB N f = true) → impL L N p l = (N, p + l.length, 0)
  | [], L, N, p, _ => by unfold impL; rfl
  | f :: l, L, N, p, h => by
    rw [impL_hit L N p f l (h f (by simp)), imp_all l L N _ (fun g hg => h g (List.mem_cons_of_mem _ hg)), List.length_cons]
    congr 2; omega
theorem imp_bad : ∀ (l : List Fa) (L O : List Fa) (p : Nat), (impL L O p l).2.2 ≠ 0 → (impL L O p l).1 = L
  | [], L, O, p, h => by unfold impL at h; simp at h
  | f :: l, L, O, p, h => by
    by_cases hh : hitB O f = true
    · rw [impL_hit L O p f l hh] at h ⊢
      exact imp_bad l L O _ h
    · rcases addL_or O f with ⟨e, he, hN⟩ | ⟨hN, _⟩
      · rw [impL_add L O p f l (by simpa using hh) hN, if_pos he]
      · rw [impL_add L O p f l (by simpa using hh) hN, if_neg (by simp)] at h ⊢
        exact imp_bad l L _ p h
theorem imp_len : ∀ (l : List Fa) (L O : List Fa) (p : Nat), (impL L O p l).1.length ≤ max L.length (O.length + l.length)
  | [], L, O, p => by unfold impL; simp; omega
  | f :: l, L, O, p => by
    by_cases hh : hitB O f = true
    · rw [impL_hit L O p f l hh, List.length_cons]
      have := imp_len l L O (p + 1)
      omega
    · rcases addL_or O f with ⟨e, he, hN⟩ | ⟨hN, _⟩
      · rw [impL_add L O p f l (by simpa using hh) hN, if_pos he]
        show L.length ≤ _
        omega
      · rw [impL_add L O p f l (by simpa using hh) hN, if_neg (by simp), List.length_cons]
        have := imp_len l L (O ++ [f]) p
        rw [List.length_append, List.length_singleton] at this
        omega
theorem imp_mem {P : Fa → Prop} : ∀ (l : List Fa) (L O : List Fa) (p : Nat), (∀ x ∈ L, P x) → (∀ x ∈ O, P x) → (∀ x ∈ l, P x) → ∀ x ∈ (impL L O p l).1, P x
  | [], L, O, p, _, hO, _ => by unfold impL; exact hO
  | f :: l, L, O, p, hL, hO, hl => by
    have hl' : ∀ x ∈ l, P x := fun x hx => hl x (List.mem_cons_of_mem _ hx)
    by_cases hh : hitB O f = true
    · rw [impL_hit L O p f l hh]
      exact imp_mem l L O _ hL hO hl'
    · rcases addL_or O f with ⟨e, he, hN⟩ | ⟨hN, _⟩
      · rw [impL_add L O p f l (by simpa using hh) hN, if_pos he]; exact hL
      · rw [impL_add L O p f l (by simpa using hh) hN, if_neg (by simp)]
        refine imp_mem l L _ p hL (fun x hx => ?_) hl'
        rcases List.mem_append.1 hx with h | h
        · exact hO x h
        · rw [List.mem_singleton.1 h]; exact hl f (by simp)

/-! ### A fact, and a Cancel of it -/
/-- Cancels take back what was told ahead of them. -/
def Backs (L : List Fa) : Prop := ∀ (i : Nat) (f : Fa), L[i]? = some f → f.ki = 18 → f.nu ≤ (i : Int)
theorem Backs.nil : Backs [] := fun i f h => by simp at h
theorem Backs.add {L : List Fa} (h : Backs L) (f : Fa) : Backs (addL L f).1 := by
  rcases addL_or L f with ⟨e, _, hN⟩ | ⟨hN, _, _, _, hc⟩
  · rw [hN]; exact h
  · rw [hN]
    intro i g hg hk
    rcases Nat.lt_or_ge i L.length with hi | hi
    · exact h i g (by rwa [List.getElem?_append_left hi] at hg) hk
    · have hl := (List.getElem?_eq_some_iff.1 hg).1
      simp at hl
      obtain rfl : i = L.length := by omega
      have hgf : g = f := by simpa using hg.symm
      subst hgf
      unfold canE at hc
      rw [if_neg (by simpa using hk)] at hc
      by_cases h6 : (L.length : Int) < g.nu
      · rw [if_pos h6] at hc; omega
      · omega
theorem Backs.tell : ∀ {l L : List Fa}, Backs L → Backs (tellL L l)
  | [], _, h => h
  | f :: l, L, h => Backs.tell (l := l) (L := (addL L f).1) (h.add f)
theorem Backs.taken {L : List Fa} (h : Backs L) {n : Int} (hn : (L.length : Int) ≤ n) : takenB L n = false := by
  unfold takenB
  rw [← Bool.not_eq_true, List.any_eq_true]
  rintro ⟨f, hf, h2⟩
  obtain ⟨i, hi⟩ := List.getElem?_of_mem hf
  have hlt := (List.getElem?_eq_some_iff.1 hi).1
  rw [decide_eq_true_eq] at h2
  have := h i f hi h2.1
  omega
/-- A Cancel. -/
def canF (n : Int) : Fa := ⟨0, 0, 18, 0, 0, ⟨#[]⟩, n, ⟨#[]⟩⟩
theorem chk_canF {n : Int} (h1 : 1 ≤ n) (h2 : n ≤ 4096) : chkF (canF n) = 0 := by
  have e1 : firmB 18 = true := by decide
  have e2 : lowN 18 = 1 := rfl
  have e3 : highN 18 = 4096 := rfl
  have e4 : daysE (canF n) = 0 := by unfold daysE canF; simp
  have e5 : codeB 18 (ls (canF n).co) = true := by unfold codeB canF ls; simp
  have e6 : textB 18 n (ls (canF n).tx) = true := by unfold textB canF ls; simp
  unfold chkF
  rw [e4]
  show (if _ then _ else _) = _
  have e7 : (canF n).tx.size = 0 := rfl
  simp only [show (canF n).ki = 18 from rfl, show (canF n).pe = 0 from rfl, show (canF n).nu = n from rfl, e1, e2, e3, e5, e6, e7]
  simp; omega
theorem placeI_zero (L : List Fa) : placeI L 0 = -1 := rfl
theorem takenB_append (L M : List Fa) (n : Int) : takenB (L ++ M) n = (takenB L n || takenB M n) := by unfold takenB; rw [List.any_append]
theorem takenB_one (f : Fa) (n : Int) : takenB [f] n = decide (f.ki = 18 ∧ f.nu = n) := by unfold takenB; simp
section
variable {L : List Fa} {f : Fa}
/-- The Cancel is taken. -/
theorem can_ok (hB : Backs L) (hk : f.ki ≠ 18) (hn : L.length + 1 < 4096) : addL (L ++ [f]) (canF ((L.length : Int) + 1)) = (L ++ [f] ++ [canF ((L.length : Int) + 1)], 0) := by
  have h1 := chk_canF (n := (L.length : Int) + 1) (by omega) (by omega)
  have h2 : canE (L ++ [f]) (canF ((L.length : Int) + 1)) = 0 := by
    have h3 : takenB (L ++ [f]) ((L.length : Int) + 1) = false := by
      rw [takenB_append, hB.taken (by omega), takenB_one]; simp [hk]
    have h4 : (L ++ [f])[((canF ((L.length : Int) + 1)).nu - 1).toNat]? = some f := by
      rw [show ((canF ((L.length : Int) + 1)).nu - 1).toNat = L.length by show ((L.length : Int) + 1 - 1).toNat = _; omega]
      simp
    unfold canE
    rw [if_neg (by show ¬ (18 : Int) ≠ 18; omega), h4, if_neg (by show ¬ _ < (L.length : Int) + 1; simp)]
    show (if f.ki = 18 then 11 else if takenB (L ++ [f]) ((L.length : Int) + 1) = true then 18 else 0) = (0 : Int)
    rw [if_neg hk, h3]; rfl
  unfold addL
  rw [if_neg (by rw [List.length_append, List.length_singleton]; omega), h1, if_neg (by omega), if_neg (by show ¬ 0 ≤ placeI _ 0; rw [placeI_zero]; omega), h2, if_neg (by omega)]
/-- A second one is refused. -/
theorem can_twice (hk : f.ki ≠ 18) (hn : L.length + 2 < 4096) : addL (L ++ [f] ++ [canF ((L.length : Int) + 1)]) (canF ((L.length : Int) + 1)) = (L ++ [f] ++ [canF ((L.length : Int) + 1)], 18) := by
  have h1 := chk_canF (n := (L.length : Int) + 1) (by omega) (by omega)
  have h2 : canE (L ++ [f] ++ [canF ((L.length : Int) + 1)]) (canF ((L.length : Int) + 1)) = 18 := by
    have h3 : takenB (L ++ [f] ++ [canF ((L.length : Int) + 1)]) ((L.length : Int) + 1) = true := by
      rw [takenB_append, takenB_one]; simp [canF]
    have h4 : (L ++ [f] ++ [canF ((L.length : Int) + 1)])[((canF ((L.length : Int) + 1)).nu - 1).toNat]? = some f := by
      rw [show ((canF ((L.length : Int) + 1)).nu - 1).toNat = L.length by show ((L.length : Int) + 1 - 1).toNat = _; omega]
      simp
    unfold canE
    rw [if_neg (by show ¬ (18 : Int) ≠ 18; omega), h4, if_neg (by show ¬ _ < (L.length : Int) + 1; simp; try omega)]
    show (if f.ki = 18 then 11 else if takenB (L ++ [f] ++ [canF ((L.length : Int) + 1)]) ((L.length : Int) + 1) = true then 18 else 0) = (18 : Int)
    rw [if_neg hk, h3]; rfl
  unfold addL
  rw [if_neg (by simp; omega), h1, if_neg (by omega), if_neg (by show ¬ 0 ≤ placeI _ 0; rw [placeI_zero]; omega), h2, if_pos (by omega)]
theorem chosen_prefix {p : Fa → Bool} {L M : List Fa} {k : Nat} (hk : k ≤ L.length) (h : ∀ n : Int, n ≤ (k : Int) → 1 ≤ n → takenB M n = false) : chosen p (L ++ M) k = chosen p L k := by
  induction k with
  | zero => rfl
  | succ k ih =>
    obtain ⟨f, hf⟩ : ∃ f, L[k]? = some f := ⟨_, List.getElem?_eq_getElem (by omega)⟩
    rw [chosen_succ p hf, chosen_succ p (by rw [List.getElem?_append_left (by omega)]; exact hf), ih (by omega) (fun n h1 h2 => h n (by omega) h2), takenB_append, h ((k : Int) + 1) (by omega) (by omega), Bool.or_false]
/-- The fact is in force behind its telling. -/
theorem force_told (hB : Backs L) (hk : f.ki ≠ 18) : forceL (L ++ [f]) = forceL L ++ [((L.length : Int) + 1, f)] := by
  unfold forceL
  have hg : (L ++ [f])[L.length]? = some f := by simp
  rw [List.length_append, List.length_singleton, chosen_succ _ hg, chosen_prefix (Nat.le_refl _) (fun n _ _ => by rw [takenB_one]; simp [hk]), takenB_append, hB.taken (by omega), takenB_one]
  have h2 : notCancel f = true := by unfold notCancel; simpa using hk
  simp [hk, h2]
/-- Behind the Cancel all is as it was. -/
theorem force_back (hk : f.ki ≠ 18) : forceL (L ++ [f] ++ [canF ((L.length : Int) + 1)]) = forceL L := by
  unfold forceL
  have e0 : ∀ n : Int, takenB [f] n = false := fun n => by rw [takenB_one]; simp [hk]
  have e1 : ∀ n : Int, takenB [canF ((L.length : Int) + 1)] n = decide ((L.length : Int) + 1 = n) := fun n => by rw [takenB_one]; simp [canF]
  have h1 : (L ++ [f] ++ [canF ((L.length : Int) + 1)])[L.length]? = some f := by simp
  have h2 : (L ++ [f] ++ [canF ((L.length : Int) + 1)])[L.length + 1]? = some (canF ((L.length : Int) + 1)) := by
    rw [List.getElem?_append_right (by simp)]; simp
  have h3 : (L ++ [f] ++ [canF ((L.length : Int) + 1)]).length = L.length + 1 + 1 := by simp
  have h4 : notCancel (canF ((L.length : Int) + 1)) = false := by unfold notCancel canF; simp
  rw [h3, chosen_succ _ h2, chosen_succ _ h1, h4]
  have h5 : takenB (L ++ [f] ++ [canF ((L.length : Int) + 1)]) ((L.length : Int) + 1) = true := by rw [takenB_append, e1]; simp
  have h6 : L ++ [f] ++ [canF ((L.length : Int) + 1)] = L ++ ([f] ++ [canF ((L.length : Int) + 1)]) := List.append_assoc _ _ _
  rw [h5, List.append_assoc, h6, chosen_prefix (Nat.le_refl _) (fun n hn _ => by rw [takenB_append, e0, e1, Bool.false_or]; exact decide_eq_false (by omega))]
  simp
end
theorem mem_force_n {L : List Fa} {x : Kn} (h : x ∈ forceL L) : x.1 ≤ (L.length : Int) := by
  obtain ⟨i, hi, h1, _⟩ := mem_chosen h
  omega
theorem kbs_inj {x y : Kn} (hx : FitK x) (hy : FitK y) (h : kbs x = kbs y) : x = y := keyK_inj hx hy (by rw [keyK_eq, keyK_eq, h])
theorem both_told {X : List Kn} {x : Kn} (hX : ∀ y ∈ X, FitK y) (hx : FitK x) (hn : x ∉ X) : bothL X (X ++ [x]) = [x] := by
  have h1 : butL X (X ++ [x]) = [] := by
    unfold butL
    rw [List.filter_eq_nil_iff]
    intro y hy
    simp only [decide_eq_true_eq, Decidable.not_not]
    exact List.mem_map.2 ⟨y, by simp [hy], rfl⟩
  have h2 : butL (X ++ [x]) X = [x] := by
    unfold butL
    rw [List.filter_append]
    have h3 := butL_self X
    unfold butL at h3
    rw [h3, List.filter_cons, if_pos, List.filter_nil]
    · rfl
    · simp only [decide_eq_true_eq]
      intro h
      obtain ⟨y, hy, he⟩ := List.mem_map.1 h
      exact hn (kbs_inj (hX y hy) hx he ▸ hy)
  unfold bothL
  rw [h1, h2]; rfl
end Go.Proofs.YtgheloooibafcaaGreatDoor

/- What is in force in just one of two views: Changed. -/
namespace Go.Proofs.YtgheloooibafcaaGreatDoor
open Go.RowKit Go.Sort

/-- What is in force in just one of two views, by the numbers. -/
def changedL (X Y : List Fa) : List Kn := ss lt (bothL (forceL X) (forceL Y))
theorem changedL_len (X Y : List Fa) : (changedL X Y).length = (bothL (forceL X) (forceL Y)).length := ss_length _
/-- A row of one's own as a slice. -/
theorem Own.sl {B : Nat} {v : Value} {l : List Kn} {w : World} (h : Own encK 9 41 B v l w) : ∃ A cap, v = .slice A l.length cap ∧ l.length ≤ cap ∧ SlK w A l := by
  by_cases h0 : l = []
  · subst h0
    rcases h.2 with ⟨rfl, _⟩ | ⟨g, cap, cur, rfl, hb, hg, hn0, hcm, hcs, ht⟩
    · exact ⟨none, 0, rfl, Nat.le_refl _, fun hl => absurd rfl hl⟩
    · exact ⟨some ⟨g, 0, none⟩, cap, rfl, Nat.zero_le _, fun hl => absurd rfl hl⟩
  · obtain ⟨g, cap, rfl, hb, hr⟩ := h.row encK_len h0
    exact ⟨some ⟨g, 0, none⟩, cap, rfl, hr.le, fun _ => ⟨g, 0, rfl, hr.lt, fun i x hx j u hu => by rw [Nat.zero_add]; exact hr.cell hx hu⟩⟩
def ChangedR (X Y : List Fa) (e : Ending) (w' : World) : Prop := ∃ C cap, e = .returned (.slice C (changedL X Y).length cap) ∧ (changedL X Y).length ≤ cap ∧ SlK w' C (changedL X Y)

set_option maxHeartbeats 4000000 in
set_option maxRecDepth 100000 in
theorem st_Changed (X Y : List Fa) (A B : Option Addr) (ca cb : Nat) (w : World) (hx : X.length ≤ 4096) (hy : Y.length ≤ 4096) (hX : SlF w A X) (hY : SlF w B Y) (fX : ∀ f ∈ X, Fit f) (fY : ∀ f ∈ Y, Fit f) (hs : (bothL (forceL X) (forceL Y)).length ≤ 1 ∨ SortOk) :
    Calls Tryz.prog 20 #[.agg #[.slice A X.length ca], .agg #[.slice B Y.length cb]] w fun e w' => ChangedR X Y e w' ∧ Below w.heap.size w w' := by
  obtain ⟨pa, hpa⟩ : ∃ x, w.heap.size = x := ⟨_, rfl⟩
  obtain ⟨pb, hpb⟩ : ∃ x, pa + 1 = x := ⟨_, rfl⟩
  obtain ⟨w2, hw2⟩ : ∃ x, (w.alloc (.cells #[.slice A X.length ca] 29)).alloc (.cells #[.slice B Y.length cb] 29) = x := ⟨_, rfl⟩
  have HM := Lib.hid (bk2 w _ _ _ hpa hpb hw2)
  have C0 : w2.cell? ⟨pa, 0, none⟩ = some (.slice A X.length ca) := HM.out.1.cell 0
  have C1 : w2.cell? ⟨pb, 0, none⟩ = some (.slice B Y.length cb) := HM.out.2.1.cell 0
  have HFX : Hid (∀ W, Below w2.heap.size w2 W → Calls Tryz.prog 46 #[.agg #[.slice A X.length ca]] W fun e w' => (∃ v, e = .returned v ∧ Own encK 9 41 W.heap.size v (forceL X) w') ∧ Below W.heap.size W w') :=
    Lib.hid fun W hW => vi_force X A ca W hx ((hX.below HM.out.2.2).below hW)
  have HFY : Hid (∀ W, Below w2.heap.size w2 W → Calls Tryz.prog 46 #[.agg #[.slice B Y.length cb]] W fun e w' => (∃ v, e = .returned v ∧ Own encK 9 41 W.heap.size v (forceL Y) w') ∧ Below W.heap.size W w') :=
    Lib.hid fun W hW => vi_force Y B cb W hy ((hY.below HM.out.2.2).below hW)
  have HK : Hid (∀ W, Below w2.heap.size w2 W → W.cell? ⟨pa, 0, none⟩ = some (.slice A X.length ca) ∧ W.cell? ⟨pb, 0, none⟩ = some (.slice B Y.length cb)) := Lib.hid fun W hW => ⟨bCell hW C0, bCell hW C1⟩
  have HLX := forceL_len X
  have HLY := forceL_len Y
  have HFiX := Lib.hid (chosen_fit (p := notCancel) (k := X.length) fX (by omega))
  have HFiY := Lib.hid (chosen_fit (p := notCancel) (k := Y.length) fY (by omega))
  have HS := Lib.hid hs
  clear hX hY hs
  go_enter Tryz.func20, Tryz.ntmps20
  go_wp2_with fail
  go_region_held3 (fun w' => w'.cell? ⟨pa, 0, none⟩ = some (.slice A X.length ca) ∧ w'.cell? ⟨pb, 0, none⟩ = some (.slice B Y.length cb)) (first | exact HK.out _ (bTrans (bDrew _) hb3) | exact HK.out _ (bTrans (bTrans (bDrew _) hb3) hb4) | go_keep) (first | (go_at_call 46; with_reducible refine (HFX.out _ (bDrew _)).mono ?_; rintro e w3 ⟨⟨v, rfl, ho⟩, hb3⟩) | (go_at_call 46; with_reducible refine (HFY.out _ (bTrans (bDrew _) hb3)).mono ?_; rintro e w4 ⟨⟨v', rfl, ho'⟩, hb4⟩))
  have HB4 : Hid (Below w.heap.size w w4) := Lib.hid (bTrans HM.out.2.2 (bTrans (bTrans (bDrew _) hb3) hb4))
  obtain ⟨A1, c1, rfl, hc1, hs1⟩ := (own_below ho hb4).sl
  obtain ⟨A2, c2, rfl, hc2, hs2⟩ := ho'.sl
  have HS1 := Lib.hid hs1
  have HS2 := Lib.hid hs2
  clear ho ho' hb3 hb4 hs1 hs2 C0 C1 hpa hpb hw2
  have HBT := Lib.hid (st_but (forceL X) (forceL Y) A1 A2 c1 c2 w4 (by omega) (by omega) HS1.out HS2.out HFiX.out HFiY.out)
  go_wp2_with fail
  refine HBT.out.mono ?_
  rintro e w5 ⟨⟨v5, rfl, ho5⟩, hb5⟩
  have HBT2 := Lib.hid (st_but (forceL Y) (forceL X) A2 A1 c2 c1 w5 (by omega) (by omega) (HS2.out.below hb5) (HS1.out.below hb5) HFiY.out HFiX.out)
  have HB5 := Lib.hid (bTrans HB4.out hb5)
  have HO5 : Hid (Own encK 9 41 w.heap.size v5 (butL (forceL X) (forceL Y)) w5) := Lib.hid (own_base ho5 HB4.out.size)
  clear ho5 hb5
  go_wp2_with fail
  refine HBT2.out.mono ?_
  rintro e w6 ⟨⟨v6, rfl, ho6⟩, hb6⟩
  have HB6 := Lib.hid (bTrans HB5.out hb6)
  have HO6 : Hid (Own encK 9 41 w.heap.size v6 (butL (forceL Y) (forceL X)) w6) := Lib.hid (own_base ho6 HB5.out.size)
  have HO5b : Hid (Own encK 9 41 w.heap.size v5 (butL (forceL X) (forceL Y)) w6) := Lib.hid (own_below HO5.out hb6)
  have HL1 := butL_len (forceL X) (forceL Y)
  have HL2 := butL_len (forceL Y) (forceL X)
  clear ho6 hb6
  go_wp2_with ((at_builtin; refine wpList_append_rows encK_len encK_one rfl _ _ 32 rfl w.heap.size w.heap.size 41 _ 80 Tryz.underlying32 knownInfo rfl (by decide) v5 v6 (butL (forceL X) (forceL Y)) (butL (forceL Y) (forceL X)) rfl HO5b.out rfl HO6.out (by omega) (by decide) HB6.out.size ?_))
  intro v7 w7 hown7 hgr7
  have HB7 : Hid (Below w.heap.size w w7) := Lib.hid (below_grown HB6.out HB6.out.size HO5b.out hgr7)
  have hln : (butL (forceL X) (forceL Y) ++ butL (forceL Y) (forceL X)).length = (bothL (forceL X) (forceL Y)).length := rfl
  have hle := bothL_len (forceL X) (forceL Y)
  obtain ⟨A7, c7, rfl, hc7, hsort⟩ := sortOwn w.heap.size (bothL (forceL X) (forceL Y)).length v7 (bothL (forceL X) (forceL Y)) w7 rfl (by omega) HS.out hown7
  have HSO := Lib.hid hsort
  have HO7 : Hid (Own encK 9 41 w.heap.size (.slice A7 (bothL (forceL X) (forceL Y)).length c7) (bothL (forceL X) (forceL Y)) w7) := Lib.hid hown7
  clear hown7 hgr7 hsort hln
  go_wp2_with fail
  refine HSO.out.mono ?_
  rintro e w8 ⟨rfl, hg8, hsl⟩
  have HB8 : Hid (Below w.heap.size w w8) := Lib.hid (below_grown HB7.out HB7.out.size HO7.out hg8)
  have HSL : Hid (SlK w8 A7 (changedL X Y)) := Lib.hid hsl
  clear hg8 hsl
  go_wp2
  go_ret
  exact ⟨⟨A7, c7, by rw [changedL_len]; rfl, by rw [changedL_len]; exact hc7, HSL.out⟩, HB8.out⟩
end Go.Proofs.YtgheloooibafcaaGreatDoor
