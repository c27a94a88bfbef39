/- Merged from: St7 St8. -/
import Derived.Test.YtgheloooibafcaaGreatDoorAdds
import Derived.BigQuiet
import Derived.Deep.RegionWith
import Derived.Deep.QuietTactic
import Derived.Laws.OwnMore
/- The store with facts more. -/
namespace Go.Proofs.YtgheloooibafcaaGreatDoor
open Go.RowKit Go.Sort

/-- Is a fact there already? -/
def hitB (O : List Fa) (f : Fa) : Bool := decide (0 ≤ placeI O f.id) && (match O[(placeI O f.id).toNat]? with | some g => sameF g f | none => false)
/-- The store with facts more, how many were passed over, what is wrong. -/
def impL (L0 : List Fa) : List Fa → Nat → List Fa → List Fa × Nat × Int
  | O, p, [] => (O, p, 0)
  | O, p, f :: l => if hitB O f = true then impL L0 O (p + 1) l else if (addL O f).2 ≠ 0 then (L0, 0, (addL O f).2) else impL L0 (addL O f).1 p l
theorem impL_hit (L O : List Fa) (p : Nat) (f : Fa) (l : List Fa) (h : hitB O f = true) : impL L O p (f :: l) = impL L O (p + 1) l := by
  rw [impL]; exact if_pos h
theorem impL_add (L O : List Fa) (p : Nat) (f : Fa) (l : List Fa) (h : hitB O f = false) {N : List Fa} {en : Int} (hN : addL O f = (N, en)) : impL L O p (f :: l) = if en ≠ 0 then (L, 0, en) else impL L N p l := by
  rw [impL, if_neg (by rw [h]; simp), hN]
theorem idxI_range {id : Int} : ∀ (L : List Fa) (j : Nat), idxI id j L = -1 ∨ ∃ i : Nat, idxI id j L = ((j + i : Nat) : Int) ∧ i < L.length
  | [], _ => .inl rfl
  | f :: L, j => by
    unfold idxI
    by_cases h : f.id = id
    · rw [if_pos h]; exact .inr ⟨0, rfl, by simp⟩
    · rw [if_neg h]
      rcases idxI_range L (j + 1) with h1 | ⟨i, h1, h2⟩
      · exact .inl h1
      · exact .inr ⟨i + 1, by rw [h1]; congr 1; omega, by simp; omega⟩
theorem placeI_range (L : List Fa) (id : Int) : placeI L id = -1 ∨ ∃ i : Nat, placeI L id = (i : Int) ∧ i < L.length := by
  unfold placeI
  by_cases h : id = 0
  · rw [if_pos h]; exact .inl rfl
  · rw [if_neg h]
    rcases idxI_range (id := id) L 0 with h1 | ⟨i, h1, h2⟩
    · exact .inl h1
    · exact .inr ⟨i, by rw [h1]; congr 1; omega, h2⟩
theorem addL_len (L : List Fa) (f : Fa) (h : L.length ≤ 4096) : (addL L f).1.length ≤ 4096 := by
  unfold addL
  split
  · exact h
  · split
    · exact h
    · split
      · exact h
      · split
        · exact h
        · simp; omega
theorem drop_at {l : List Fa} {k : Nat} {f : Fa} (h : l[k]? = some f) : l.drop k = f :: l.drop (k + 1) := by
  obtain ⟨hk, e⟩ := List.getElem?_eq_some_iff.1 h
  rw [← e]; exact List.drop_eq_getElem_cons hk
/-- A store to a block of another type keeps facts. -/
theorem SlF.keepRe {w : World} {A : Option Addr} {L : List Fa} {r : Nat} {T : Value} {t : TypeId} (h : SlF w A L) (hr : Bk r t #[T] w) (v : Value) : SlF (w.setCell ⟨r, 0, none⟩ v) A L := fun hl => by
  obtain ⟨b, off, e, hlt, hc⟩ := h hl
  have hbr : b ≠ r := by
    intro hbr
    subst hbr
    obtain ⟨f, hf⟩ : ∃ f, L[0]? = some f := ⟨_, List.getElem?_eq_getElem (List.length_pos_iff.2 hl)⟩
    have h1 := hc 0 f hf 1 _ rfl
    rw [hr.cell] at h1
    simp at h1
  exact ⟨b, off, e, by simpa using hlt, fun i x hx j u hu => (World.cell?_setCells_out r [v] 0 w _ (fun hb _ => absurd hb hbr)).trans (hc i x hx j u hu)⟩
def impR (L l : List Fa) (e : Ending) (w' : World) : Prop := ∃ A cap, e = .returned (.tuple #[.agg #[.slice A (impL L L 0 l).1.length cap], .int .i64 ((impL L L 0 l).2.1 : Nat), .int .i64 (impL L L 0 l).2.2]) ∧ (impL L L 0 l).1.length ≤ cap ∧ SlF w' A (impL L L 0 l).1
/-- What lies in memory at an Import. -/
structure IM (w W : World) (sb rb ob : Nat) (S T : Value) : Prop where
  st : Bk sb 27 #[S] W
  re : Bk rb 27 #[.slice none 0 0] W
  ou : Bk ob 27 #[T] W
  bel : Below w.heap.size w W
theorem IM.below {w W W' : World} {sb rb ob : Nat} {S T : Value} (h : IM w W sb rb ob S T) (hb : Below W.heap.size W W') : IM w W' sb rb ob S T :=
  ⟨(hb.block sb h.st.lt).trans h.st, (hb.block rb h.re.lt).trans h.re, (hb.block ob h.ou.lt).trans h.ou, bTrans h.bel hb⟩
theorem IM.put {w W : World} {sb rb ob : Nat} {S T : Value} (h : IM w W sb rb ob S T) (hne : w.heap.size ≤ rb ∧ w.heap.size ≤ ob ∧ sb ≠ rb ∧ sb ≠ ob ∧ rb ≠ ob) (T' : Value) : IM w (W.setCell ⟨ob, 0, none⟩ T') sb rb ob S T' :=
  ⟨(heap_setCell_other W ⟨ob, 0, none⟩ sb _ hne.2.2.2.1).trans h.st, (heap_setCell_other W ⟨ob, 0, none⟩ rb _ hne.2.2.2.2).trans h.re, h.ou.set_ 0 _, h.bel.setCell (p := ⟨ob, 0, none⟩) hne.2.1 _⟩
theorem IM.start (w : World) (S : Value) {sb rb ob : Nat} {w3 : World} (h1 : w.heap.size = sb) (h2 : sb + 1 = rb) (h3 : rb + 1 = ob) (hw : ((w.alloc (.cells #[S] 27)).alloc (.cells #[.slice none 0 0] 27)).alloc (.cells #[S] 27) = w3) : IM w w3 sb rb ob S S := by
  subst hw; subst h3; subst h2; subst h1
  have s1 : (w.alloc (.cells #[S] 27)).heap.size = w.heap.size + 1 := by simp
  have s2 : ((w.alloc (.cells #[S] 27)).alloc (.cells #[.slice none 0 0] 27)).heap.size = w.heap.size + 1 + 1 := by simp
  have b1 : Bk w.heap.size 27 #[S] (w.alloc (.cells #[S] 27)) := Bk.new _ _ _
  have b2 : Bk (w.heap.size + 1) 27 #[.slice none 0 0] ((w.alloc (.cells #[S] 27)).alloc (.cells #[.slice none 0 0] 27)) := by
    have := Bk.new (w.alloc (.cells #[S] 27)) 27 #[.slice none 0 0]
    rwa [s1] at this
  have b3 : Bk (w.heap.size + 1 + 1) 27 #[S] (((w.alloc (.cells #[S] 27)).alloc (.cells #[.slice none 0 0] 27)).alloc (.cells #[S] 27)) := by
    have := Bk.new ((w.alloc (.cells #[S] 27)).alloc (.cells #[.slice none 0 0] 27)) 27 #[S]
    rwa [s2] at this
  exact ⟨(b1.grows (.of_alloc _ _)).grows (.of_alloc _ _), b2.grows (.of_alloc _ _), b3, bTrans (bTrans (bAlloc w _) (bAlloc _ _)) (bAlloc _ _)⟩

end Go.Proofs.YtgheloooibafcaaGreatDoor

/- Which facts of a view are taken back. -/
namespace Go.Proofs.YtgheloooibafcaaGreatDoor
open Go.RowKit Go.Sort

/-- Which facts are taken back by the first k, by their places. -/
def backV (L : List Fa) (k : Nat) : List Value := (List.range L.length).map fun (i : Nat) => Value.bool (takenB (L.take k) (Int.ofNat i + 1))
theorem backV_len (L : List Fa) (k : Nat) : (backV L k).length = L.length := by simp [backV]
theorem backV_zero (L : List Fa) : backV L 0 = List.replicate L.length (.bool false) := by
  refine List.ext_getElem (by simp [backV]) fun i h1 h2 => ?_
  simp [backV, takenB]
theorem taken_succ {L : List Fa} {k : Nat} {f : Fa} (hf : L[k]? = some f) (n : Int) : takenB (L.take (k + 1)) n = (takenB (L.take k) n || decide (f.ki = 18 ∧ f.nu = n)) := by
  unfold takenB
  rw [List.take_add_one, hf]
  simp
theorem backV_skip {L : List Fa} {k : Nat} {f : Fa} (hf : L[k]? = some f) (h : ¬ (f.ki = 18 ∧ 1 ≤ f.nu ∧ f.nu ≤ L.length)) : backV L (k + 1) = backV L k := by
  unfold backV
  refine List.map_congr_left fun i hi => ?_
  have hi2 : i < L.length := List.mem_range.1 hi
  rw [taken_succ hf, decide_eq_false (by rintro ⟨h2, h3⟩; exact h ⟨h2, by rw [h3]; simp only [Int.ofNat_eq_natCast]; omega, by rw [h3]; simp only [Int.ofNat_eq_natCast]; omega⟩), Bool.or_false]
theorem backV_set {L : List Fa} {k : Nat} {f : Fa} (hf : L[k]? = some f) (h1 : f.ki = 18) {m : Nat} (h2 : f.nu = (m : Int) + 1) : backV L (k + 1) = (backV L k).set m (.bool true) := by
  refine List.ext_getElem (by simp [backV]) fun i h4 h5 => ?_
  rw [List.getElem_set]
  simp only [backV, List.getElem_map, List.getElem_range, taken_succ hf]
  by_cases hm : m = i
  · subst hm
    rw [if_pos rfl, decide_eq_true ⟨h1, by rw [h2]; rfl⟩, Bool.or_true]
  · rw [if_neg hm, decide_eq_false (by rintro ⟨_, h⟩; simp only [Int.ofNat_eq_natCast] at h; omega), Bool.or_false]
theorem boolInfo : (Tryz.prog.info? 4).map (fun i => (i.zero, i.size, i.bytes)) = some (some (.bool false), 1, 1) := by kernel_rfl
theorem run_makeB (n : Nat) (hn : n ≤ 5000) (W : World) : (Instr.makeSlice 180 (.int .i64 n) (.int .i64 n)).run Tryz.prog W = .ok (.slice (some ⟨W.heap.size, 0, none⟩) n n) (W.alloc (.cells (Array.replicate n (Value.bool false)) 4)) := by
  obtain ⟨i, h1, h2, h3, h4⟩ := info_parts boolInfo
  have h := run_makeSlice (P := Tryz.prog) W 180 4 i _ Tryz.underlying180 h1 h2 .i64 .i64 n n (by omega) (by omega) (by rw [h3, Int.toNat_natCast]; omega) (by rw [h4]; omega) (by omega)
  rw [h3, Int.toNat_natCast] at h
  have hm : madeCells (Value.bool false).cells (n * 1) = Array.replicate n (Value.bool false) := by
    rw [Nat.mul_one]
    exact Array.toList_inj.1 (by rw [show (Value.bool false).cells = #[Value.bool false] from rfl, toList_madeCells_one, Array.toList_replicate])
  rw [h, hm]
set_option maxHeartbeats 4000000 in
set_option maxRecDepth 100000 in
theorem vi_back (L : List Fa) (A : Option Addr) (cap : Nat) (w : World) (hn : L.length ≤ 4096) (hs : SlF w A L) :
    Calls Tryz.prog 98 #[.agg #[.slice A L.length cap]] w fun e w' => (∃ g, e = .returned (.slice (some ⟨g, 0, none⟩) L.length L.length) ∧ w.heap.size ≤ g ∧ Bk g 4 (backV L L.length).toArray w') ∧ Below w.heap.size w w' := by
  obtain ⟨vb, hvb⟩ : ∃ x, w.heap.size = x := ⟨_, rfl⟩
  obtain ⟨w2, hw2⟩ : ∃ x, w.alloc (.cells #[.slice A L.length cap] 29) = x := ⟨_, rfl⟩
  have HS := Lib.hid hs
  have HV2 : Hid (Bk vb 29 #[.slice A L.length cap] w2) := Lib.hid (by rw [← hw2, ← hvb]; exact Bk.new _ _ _)
  have HB2 : Hid (Below w.heap.size w w2) := Lib.hid (by rw [← hw2]; exact bAlloc w _)
  have hmk := run_makeB L.length (by omega)
  clear hs
  have V0 : w2.cell? ⟨vb, 0, none⟩ = some (.slice A L.length cap) := HV2.out.cell 0
  obtain ⟨g, hg⟩ : ∃ x, w2.heap.size = x := ⟨_, rfl⟩
  obtain ⟨w3, hw3⟩ : ∃ x, w2.alloc (.cells (Array.replicate L.length (Value.bool false)) 4) = x := ⟨_, rfl⟩
  have HB3 : Hid (Below w.heap.size w w3) := Lib.hid (by rw [← hw3]; exact bTrans HB2.out (bAlloc w2 _))
  have HG3 : Hid (Bk g 4 (backV L 0).toArray w3) := Lib.hid (by rw [← hw3, ← hg, backV_zero]; simpa using Bk.new w2 4 (Array.replicate L.length (Value.bool false)))
  have HGE : Hid (w.heap.size ≤ g) := Lib.hid (by have := HB2.out.size; omega)
  have V1 : w3.cell? ⟨vb, 0, none⟩ = some (.slice A L.length cap) := by rw [← hw3]; exact (HV2.out.grows (.of_alloc _ _)).cell 0
  go_enter Tryz.func98, Tryz.ntmps98
  go_wp2
  clear V0 V1 hmk hw2 hvb hw3 hg
  go_loopw [5, 13] (fun _ iv wr => ∃ k : Nat, k ≤ L.length ∧ iv = .int .i64 k ∧ Hid (Bk g 4 (backV L k).toArray wr) ∧ Hid (Below w.heap.size w wr)) (fun _ iv _ => L.length - (intOf iv).toNat)
  case atStart => exact ⟨0, Nat.zero_le _, rfl, HG3, HB3⟩
  case round =>
    obtain ⟨k, hk, rfl, HG, HB⟩ := hrel
    by_cases hlt : k < L.length
    · obtain ⟨b, off, rfl, hbl, hat⟩ := SlF.open_ HS.out (by intro h; simp [h] at hlt)
      obtain ⟨f, hx⟩ : ∃ x, L[k]? = some x := ⟨_, List.getElem?_eq_getElem hlt⟩
      have hat1 := (hat k f hx).below HB.out
      have C0 := hat1.c0
      have C1 := hat1.c1
      have C2 := hat1.c2
      have C3 := hat1.c3
      have C4 := hat1.c4
      have C5 := hat1.c5
      have C6 := hat1.c6
      have C7 := hat1.c7
      have HX := Lib.hid hx
      have HBA : Hid (∀ o, Below w.heap.size w (wr.alloc o)) := Lib.hid (fun o => bTrans HB.out (bAlloc wr o))
      have HGA : Hid (∀ o, Bk g 4 (backV L k).toArray (wr.alloc o)) := Lib.hid (fun o => HG.out.grows (.of_alloc _ _))
      clear hat hat1 hx
      by_cases h18 : f.ki = 18
      · have b18 : (f.ki == 18) = true := beq_iff_eq.2 h18
        have H18 := Lib.hid h18
        clear h18
        by_cases hlo : 1 ≤ f.nu
        · by_cases hhi : f.nu ≤ (L.length : Int)
          · obtain ⟨m, hm⟩ : ∃ m : Nat, f.nu = (m : Int) + 1 := ⟨(f.nu - 1).toNat, by omega⟩
            have HSET := Lib.hid (backV_set HX.out H18.out hm)
            have hw1 : IntKind.i64.wrap (f.nu - 1) = f.nu - 1 := IntWalk.i64_in _ (by omega)
            have hge : 0 ≤ f.nu - 1 := by omega
            have hltn : f.nu - 1 < (L.length : Int) := by omega
            have htn : (f.nu - 1).toNat = m := by omega
            have HNE : Hid (m < L.length) := Lib.hid (by omega)
            have HSW : Hid (∀ o, Bk g 4 (backV L (k + 1)).toArray ((wr.alloc o).setCell ⟨g, m, none⟩ (.bool true))) := Lib.hid (fun o => by
              rw [HSET.out]
              have := (HGA.out o).set_ m (.bool true)
              simpa using this)
            clear hm
            have hd1 : decide ((1 : Int) ≤ f.nu) = true := decide_eq_true hlo
            have hd2 : decide (f.nu ≤ (L.length : Int)) = true := decide_eq_true hhi
            have D0 : ∀ o, (wr.alloc o).cell? ⟨g, m, none⟩ = some ((backV L k)[m]'(by rw [backV_len]; exact HNE.out)) := fun o => by rw [(HGA.out o).cell]; simp
            have D1 : ∀ o, (wr.alloc o).frozen? ⟨g, m, none⟩ = false := fun o => (HGA.out o).frozen m
            go_wp2
            refine ⟨⟨k + 1, by omega, by go_num, Lib.hid ?_, Lib.hid ?_⟩, by simp [intOf]; omega⟩
            · exact HSW.out _
            · exact (HBA.out _).setCell (p := ⟨g, m, none⟩) HGE.out _
          · have HSK := Lib.hid (backV_skip HX.out (fun h => hhi h.2.2))
            have hd1 : decide ((1 : Int) ≤ f.nu) = true := decide_eq_true hlo
            have hd2 : decide (f.nu ≤ (L.length : Int)) = false := decide_eq_false hhi
            go_wp2
            exact ⟨⟨k + 1, by omega, by go_num, Lib.hid (by rw [HSK.out]; exact HGA.out _), Lib.hid (HBA.out _)⟩, by simp [intOf]; omega⟩
        · have HSK := Lib.hid (backV_skip HX.out (fun h => hlo h.2.1))
          have hd1 : decide ((1 : Int) ≤ f.nu) = false := decide_eq_false hlo
          go_wp2
          exact ⟨⟨k + 1, by omega, by go_num, Lib.hid (by rw [HSK.out]; exact HGA.out _), Lib.hid (HBA.out _)⟩, by simp [intOf]; omega⟩
      · have b18 : (f.ki == 18) = false := beq_eq_false_iff_ne.2 h18
        have HSK := Lib.hid (backV_skip HX.out (fun h => h18 h.1))
        clear h18
        go_wp2
        exact ⟨⟨k + 1, by omega, by go_num, Lib.hid (by rw [HSK.out]; exact HGA.out _), Lib.hid (HBA.out _)⟩, by simp [intOf]; omega⟩
    · obtain rfl : k = L.length := by omega
      go_wp2
      go_ret
      exact ⟨⟨g, rfl, HGE.out, HG.out⟩, HB.out⟩
end Go.Proofs.YtgheloooibafcaaGreatDoor
