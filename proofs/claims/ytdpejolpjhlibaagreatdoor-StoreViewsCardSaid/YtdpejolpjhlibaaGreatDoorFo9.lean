import Derived.Test.YtdpejolpjhlibaaGreatDoorIs9
/- The document's facts in force; at; same. -/
namespace Go.Proofs.YtdpejolpjhlibaaGreatDoor
open Go.RowKit Go.Sort

theorem rknownInfo : (Tryz.prog.info? 71).map (fun i => (i.zero, i.size, i.bytes)) = some (some (.agg #[.int .i64 0, .int .u32 0, .int .u32 0, .int .i64 0, .int .i64 0, .int .i64 0, .string ⟨#[]⟩, .int .i64 0, .string ⟨#[]⟩]), 9, 80) := by kernel_rfl
/-- Known facts in a row of their own, in the document's type. -/
abbrev OwnQ (B : Nat) (v : Value) (l : List Kn) (w : World) : Prop := Own encK 9 71 B v l w
theorem newsQ (x : Kn) (w : World) : ∀ j u, (encK x)[j]? = some u → (w.alloc (.cells (encK x).toArray 71)).cell? ⟨w.heap.size, j, none⟩ = some u := by
  intro j u hu
  have h := Bk.new w 71 (encK x).toArray
  rw [h.cell]
  simpa using hu
theorem OwnQ.sl {B : Nat} {v : Value} {l : List Kn} {w : World} (h : OwnQ B v l w) : ∃ A cap, v = .slice A l.length cap ∧ l.length ≤ cap ∧ SlK w A l := by
  by_cases h0 : l = []
  · subst h0
    rcases h.2 with ⟨rfl, _⟩ | ⟨g, cap, cur, rfl, hb, hg, hn0, hcm, hcs, ht⟩
    · exact ⟨none, 0, rfl, Nat.le_refl _, fun hl => absurd rfl hl⟩
    · exact ⟨some ⟨g, 0, none⟩, cap, rfl, Nat.zero_le _, fun hl => absurd rfl hl⟩
  · obtain ⟨g, cap, rfl, hb, hr⟩ := h.row encK_len h0
    exact ⟨some ⟨g, 0, none⟩, cap, rfl, hr.le, fun _ => ⟨g, 0, rfl, hr.lt, fun i x hx j u hu => by rw [Nat.zero_add]; exact hr.cell hx hu⟩⟩
theorem belowQ {B : Nat} {w0 w w' : World} {v : Value} {l : List Kn} (h : Below B w0 w) (hB : B ≤ w.heap.size) (ho : OwnQ B v l w) (hg : w.grownBy w' v.ownBlock) : Below B w0 w' :=
  h.trans ⟨hg.os, hg.tape, hg.output, hg.size, fun i hi => hg.block i (by omega) (ho.far hi)⟩
theorem ownQ_below {B : Nat} {w w' : World} {v : Value} {l : List Kn} (ho : OwnQ B v l w) (hb : Below w.heap.size w w') : OwnQ B v l w' :=
  ho.none_ ⟨hb.os, hb.tape, hb.output, hb.size, fun i hi _ => hb.block i hi⟩

set_option maxHeartbeats 4000000 in
set_option maxRecDepth 100000 in
theorem r9_Force (L : List Fa) (A : Option Addr) (cap : Nat) (w : World) (hn : L.length ≤ 4096) (hs : SlF w A L) :
    Calls Tryz.prog 40 #[.slice A L.length cap] w fun e w' => (∃ v, e = .returned v ∧ OwnQ w.heap.size v (forceL L) w') ∧ Below w.heap.size w w' := by
  have HS := Lib.hid hs
  clear hs
  go_enter Tryz.func40, Tryz.ntmps40
  go_wp2
  go_loopw [3, 4] (fun ov iv wr => ∃ k : Nat, k ≤ L.length ∧ iv = .int .i64 k ∧ Hid (OwnQ w.heap.size ov (chosen notCancel L k) wr) ∧ Hid (Below w.heap.size w wr)) (fun _ iv _ => L.length - (intOf iv).toNat)
  case atStart => exact ⟨0, Nat.zero_le _, rfl, Lib.hid (Own.nil _), Lib.hid (Below.refl _ _)⟩
  case round =>
    obtain ⟨k, hk, rfl, HO, HB⟩ := hrel
    by_cases hlt : k < L.length
    · have HBK := Lib.hid (r9_Back L A cap (k : Int) wr (by omega) (by omega) (HS.out.below HB.out))
      obtain ⟨b, off, rfl, hbl, hat⟩ := SlF.open_ HS.out (by intro h; simp [h] at hlt)
      obtain ⟨f, hx⟩ : ∃ x, L[k]? = some x := ⟨_, List.getElem?_eq_getElem hlt⟩
      have HC := Lib.hid (chosen_succ notCancel hx)
      have HAT : Hid (∀ W, Below w.heap.size w W → At8 W b (off + k * 8) f) := Lib.hid fun W hW => (hat k f hx).below hW
      have C2 := (HAT.out _ HB.out).c2
      have HLE := chosen_len notCancel L k
      clear hat hx
      by_cases h18 : f.ki = 18
      · have b18 : (f.ki != 18) = false := by rw [h18]; rfl
        have HC2 : Hid (chosen notCancel L (k + 1) = chosen notCancel L k) := Lib.hid (by
          rw [HC.out]
          have : notCancel f = false := b18
          rw [this]; simp)
        clear h18
        go_wp2
        exact ⟨⟨k + 1, by omega, by go_num, Lib.hid (by rw [HC2.out]; exact HO.out), HB⟩, by simp [intOf]; omega⟩
      · have b18 : (f.ki != 18) = true := bne_iff_ne.2 h18
        have HNC : Hid (notCancel f = true) := Lib.hid b18
        clear h18
        go_wp2_with fail
        refine HBK.out.mono ?_
        rintro e w4 ⟨rfl, hb4⟩
        have HB4 : Hid (Below w.heap.size w w4) := Lib.hid (bTrans HB.out hb4)
        have HO4 : Hid (OwnQ w.heap.size u3 (chosen notCancel L k) w4) := Lib.hid (ownQ_below HO.out hb4)
        obtain ⟨tb, htb⟩ : ∃ x, takenB L ((k : Int) + 1) = x := ⟨_, rfl⟩
        rw [htb]
        have HC3 : Hid (chosen notCancel L (k + 1) = chosen notCancel L k ++ (if tb = true then [] else [((k : Int) + 1, f)])) := Lib.hid (by rw [HC.out, htb, HNC.out, if_pos rfl])
        clear hb4 C2 HBK htb
        cases tb with
        | true =>
          go_wp2
          exact ⟨⟨k + 1, by omega, by go_num, Lib.hid (by rw [HC3.out]; simpa using HO4.out), HB4⟩, by simp [intOf]; omega⟩
        | false =>
          obtain ⟨C0, C1, C2, C3, C4, C5, C6, C7⟩ := HAT.out _ HB4.out
          have HL : (chosen notCancel L k).length + 1 ≤ 1000000000 := by omega
          have HX : Hid (w.heap.size ≤ w4.heap.size) := Lib.hid HB4.out.size
          go_wp2_with ((at_builtin; refine wpList_append_row encK_len encK_one rfl _ _ 43 rfl w.heap.size 71 _ 80 Tryz.underlying43 rknownInfo rfl (by decide) _ (chosen notCancel L k) ((k : Int) + 1, f) rfl (HO4.out.alloc _) w4.heap.size 1 rfl (newsQ ((k : Int) + 1, f) w4) HL (by decide) (Nat.le_trans HX.out (Grows.of_alloc _ _).size) ?_))
          intro v6 w6 hown6 hgr6
          have HB6 : Hid (Below w.heap.size w w6) := Lib.hid (belowQ (bTrans HB4.out (bAlloc w4 _)) (Nat.le_trans HX.out (Grows.of_alloc _ _).size) (HO4.out.alloc _) hgr6)
          have HO6 : Hid (OwnQ w.heap.size v6 (chosen notCancel L (k + 1)) w6) := Lib.hid (by rw [HC3.out]; exact hown6)
          clear hown6 hgr6 C0 C1 C2 C3 C4 C5 C6 C7
          go_wp2
          exact ⟨⟨k + 1, by omega, by go_num, HO6, HB6⟩, by simp [intOf]; omega⟩
    · obtain rfl : k = L.length := by omega
      go_wp2
      go_ret
      exact ⟨⟨_, rfl, HO.out⟩, HB.out⟩

set_option maxHeartbeats 2000000 in
set_option maxRecDepth 100000 in
theorem r9_At (L : List Fa) (A : Option Addr) (cap : Nat) (n : Int) (w : World) (hn : L.length ≤ 4096) (hcap : L.length ≤ cap) :
    Calls Tryz.prog 19 #[.slice A L.length cap, .int .i64 n] w fun e w' => e = .returned (.slice A (atN L n) cap) ∧ w' = w := by
  obtain ⟨k, hk⟩ : ∃ k : Nat, atN L n = k := ⟨_, rfl⟩
  rw [hk]
  unfold atN at hk
  go_enter Tryz.func19, Tryz.ntmps19
  by_cases h0 : n < 0
  · obtain rfl : k = 0 := by omega
    have h1 : ¬ (0 : Int) > (L.length : Int) := by omega
    have h2 : (0 : Int) ≤ (cap : Int) := by omega
    go_wp2
    go_ret
    exact ⟨rfl, rfl⟩
  · by_cases h1 : (L.length : Int) < n
    · obtain rfl : k = L.length := by omega
      have h2 : (L.length : Int) ≤ (cap : Int) := by omega
      go_wp2
      go_ret
      exact ⟨rfl, rfl⟩
    · obtain rfl : n = (k : Int) := by omega
      have h2 : (k : Int) ≤ (cap : Int) := by omega
      go_wp2
      go_ret
      exact ⟨rfl, rfl⟩
end Go.Proofs.YtdpejolpjhlibaaGreatDoor
