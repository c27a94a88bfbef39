/- Out of: Yf2 Yf3 Yf4. -/
import Derived.Test.YtgepbkldgnjpfaaGreatDoorZgk
import Derived.Lib.BufferMore
import Derived.Lib.SliceRun
/- attach.Sort. -/
namespace Go.Proofs.YtgepbkldgnjpfaaGreatDoor.Ao
open Go.RowKit Go.Sort Go.BigFrame

section
variable {α : Type} {enc : α → List Value} {k : Nat} {e : TypeId} {B : Nat} {v : Value} {l : List α} {w w' : World}
theorem rowOf_len (hk : ∀ x, (enc x).length = k) (l : List α) : (rowOf enc l).length = l.length * k := by
  induction l with
  | nil => simp [rowOf]
  | cons x l ih =>
    have : rowOf enc (x :: l) = enc x ++ rowOf enc l := rfl
    rw [this, List.length_append, ih, hk, List.length_cons, Nat.add_mul]; omega
theorem rowOf_ex (hk : ∀ x, (enc x).length = k) : ∀ (l : List α) (j : Nat) (u : Value), (rowOf enc l)[j]? = some u → ∃ i r x, j = i * k + r ∧ l[i]? = some x ∧ (enc x)[r]? = some u := by
  intro l
  induction l with
  | nil => intro j u h; simp [rowOf] at h
  | cons y l ih =>
    intro j u h
    have e : rowOf enc (y :: l) = enc y ++ rowOf enc l := rfl
    rw [e] at h
    by_cases hj : j < k
    · rw [List.getElem?_append_left (by rw [hk]; exact hj)] at h
      exact ⟨0, j, y, by omega, rfl, h⟩
    · rw [List.getElem?_append_right (by rw [hk]; omega), hk] at h
      obtain ⟨i, r, x, h1, h2, h3⟩ := ih (j - k) u h
      exact ⟨i + 1, r, x, by rw [Nat.add_mul]; omega, h2, h3⟩
theorem slNews (hk : ∀ x, (enc x).length = k) {b off : Nat} (h : ∀ i x, l[i]? = some x → ∀ j u, (enc x)[j]? = some u → w.cell? ⟨b, off + i * k + j, none⟩ = some u) : ∀ j u, (rowOf enc l)[j]? = some u → w.cell? ⟨b, off + j, none⟩ = some u := fun j u hu => by
  obtain ⟨i, r, x, rfl, h1, h2⟩ := rowOf_ex hk l j u hu
  rw [← Nat.add_assoc]
  exact h i x h1 r u h2
theorem ownEmpty {h : Nat} (hE : Bk h e #[] w) (hb : B ≤ h) : Own enc k e B (.slice (some ⟨h, 0, none⟩) 0 0) [] w :=
  ⟨by simp [rowOf], .inr ⟨h, 0, #[], rfl, hb, hE, Nat.le_refl _, by simp [maxLen], by simp, by simp [rowOf]⟩⟩
theorem belOwn {w0 : World} (h : Below B w0 w) (hB : B ≤ w.heap.size) (ho : Own enc k e B v l w) (hg : w.grownBy w' v.ownBlock) : Below B w0 w' :=
  h.trans ⟨hg.os, hg.tape, hg.output, hg.size, fun i hi => hg.block i (by omega) (ho.far hi)⟩
/-- A row of one's own: nothing, or a block. -/
theorem ownRw (hk : ∀ x, (enc x).length = k) (h : Own enc k e B v l w) : (v = .slice none 0 0 ∧ l = []) ∨ ∃ g cap, v = .slice (some ⟨g, 0, none⟩) l.length cap ∧ B ≤ g ∧ Rw enc k e g cap l w := by
  by_cases h0 : l = []
  · subst h0
    rcases h.2 with ⟨rfl, _⟩ | ⟨g, cap, cur, rfl, hb, hg, hn0, hcm, hcs, ht⟩
    · exact Or.inl ⟨rfl, rfl⟩
    · exact Or.inr ⟨g, cap, rfl, hb, cur, hg, hcs, Nat.zero_le _, fun i x hx => by simp at hx⟩
  · obtain ⟨g, cap, hv, hb, hr⟩ := h.row hk h0
    exact Or.inr ⟨g, cap, hv, hb, hr⟩
end
theorem encO_one (x : Od) : ∀ u ∈ encO x, u.oneCell' = true := by
  intro u hu
  simp only [encO, List.mem_cons, List.not_mem_nil, or_false] at hu
  rcases hu with rfl | rfl | rfl | rfl | rfl | rfl <;> rfl
theorem ordInfo : (Tryz.prog.info? 61).map (fun i => (i.zero, i.size, i.bytes)) = some (some (.agg #[.string ByteArray.empty, .int .i64 0, .int .i64 0, .int .i64 0, .int .i64 0, .int .i64 0]), 6, 56) := by kernel_rfl
theorem sliceO_new (w : World) : Own encO 6 61 w.heap.size (.slice (some ⟨w.heap.size, 0, none⟩) 0 0) [] (w.alloc (.cells #[] 61)) := ownEmpty (Bk.new w _ #[]) (Nat.le_refl _)
set_option maxRecDepth 10000 in
theorem od_Clone (L : List Od) (A : Option Addr) (cap : Nat) (w : World) (hn : L.length ≤ 1000000) (hs : Sl encO 6 w w.heap.size A L) :
    Calls Tryz.prog 105 #[.slice A L.length cap] w fun e w' => ∃ v, e = .returned v ∧ Own encO 6 61 w.heap.size v L w' ∧ Below w.heap.size w w' := by
  obtain ⟨i, hi1, hz, hsize, hby⟩ := info_parts ordInfo
  have q58 : ∀ (w : World) (a : Option Addr) (n c n' c' : Nat), (binOp .eql 52 (.slice a n c) (.slice none n' c')).run Tryz.prog w = .ok (.bool a.isNone) w := fun w a n c n' c' => Lib.run_eql_slice_nil w _ _ a n c n' c' Tryz.underlying52
  cases A with
  | none =>
    have h0 : L = [] := by
      cases L with
      | nil => rfl
      | cons x r => obtain ⟨b, off, e, _⟩ := hs (by simp); cases e
    subst h0
    clear hs hn
    go_enter Tryz.func105, Tryz.ntmps105
    go_wp2
    go_ret
    exact ⟨_, rfl, Own.nil _, Below.refl _ _⟩
  | some ad =>
    have hnews : Hid (∀ j u, (rowOf encO L)[j]? = some u → w.cell? (ad.add j) = some u) := Lib.hid fun j u hu => by
      have hl : L ≠ [] := by intro h; subst h; simp [rowOf] at hu
      obtain ⟨b, off, e, hlt, hc⟩ := hs hl
      cases e
      rw [Addr.add_lit]
      exact slNews encO_len hc j u hu
    clear hs
    go_enter Tryz.func105, Tryz.ntmps105
    go_wp2_with (at_builtin; refine wpList_append_own _ rfl _ _ 52 rfl w.heap.size 61 i _ 6 56 Tryz.underlying52 hi1 hz hsize hby rfl (by decide) _ 0 [] rfl (sliceO_new w) ad L.length cap (rowOf encO L) rfl ?q1 ?q2 ?q3 ?q4 ?q5 ?q6 ?_)
    case q1 => exact rowOf_len encO_len L
    case q2 => exact fun j u hu => Lib.cell?_alloc_some _ (hnews.out j u hu)
    case q3 =>
      intro u hu
      unfold rowOf at hu
      rw [List.mem_flatMap] at hu
      obtain ⟨x, _, hx⟩ := hu
      exact encO_one x u hx
    case q4 => rw [Nat.zero_add]; unfold maxLen; omega
    case q5 => rw [Nat.zero_add]; omega
    case q6 => exact Nat.le_of_lt (size_new _ _)
    intro v' w1 hown hgrow _
    have ho : Own encO 6 61 w.heap.size v' L w1 := hown
    have HS := Lib.hid ho
    have HB : Hid (Below w.heap.size w w1) := Lib.hid (belOwn (bAlloc w _) (Nat.le_of_lt (size_new _ _)) (sliceO_new w) hgrow)
    clear hown hgrow ho
    go_wp2
    go_ret
    exact ⟨_, rfl, HS.out, HB.out⟩
/-- An order with its number; one of a great code stands for none. -/
def mkE (o : Od) : Eo := if h : o.co.size ≤ 32 then ⟨keyO o, o, rfl, h⟩ else ⟨0, ⟨ByteArray.empty, 0, 0, 0, 0, 0⟩, rfl, by decide⟩
def orE (e : Eo) : Od := e.o.1
/-- Orders, as they are served. -/
def sortO (l : List Od) : List Od := (ss lt (l.map mkE)).map orE
theorem orE_mkE {o : Od} (h : o.co.size ≤ 32) : orE (mkE o) = o := by unfold mkE; rw [dif_pos h]; rfl
theorem map_orE : ∀ {l : List Od}, (∀ o ∈ l, o.co.size ≤ 32) → (l.map mkE).map orE = l
  | [], _ => rfl
  | o :: r, h => by
    rw [List.map_cons, List.map_cons, orE_mkE (h o (by simp)), map_orE fun x hx => h x (by simp [hx])]
theorem sortO_perm {l : List Od} (h : ∀ o ∈ l, o.co.size ≤ 32) : (sortO l).Perm l := by
  have := (ss_perm (lt := lt) (l.map mkE)).map orE
  rwa [map_orE h] at this
theorem sortO_one (o : Od) (h : o.co.size ≤ 32) : sortO [o] = [o] := by
  unfold sortO
  rw [List.map_cons, List.map_nil, show ss lt [mkE o] = mg lt [mkE o] [] from rfl, nil_mg, List.map_cons, List.map_nil, orE_mkE h]
theorem rw_map {g cap : Nat} {O : List Eo} {w : World} : RowE g cap O w ↔ Rw encO 6 61 g cap (O.map orE) w := by
  constructor
  · rintro ⟨cur, h1, h2, h3, h4⟩
    refine ⟨cur, h1, h2, by rwa [List.length_map], fun i x hx j u hu => ?_⟩
    rw [List.getElem?_map] at hx
    obtain ⟨y, hy, rfl⟩ := Option.map_eq_some_iff.1 hx
    exact h4 i y hy j u hu
  · rintro ⟨cur, h1, h2, h3, h4⟩
    refine ⟨cur, h1, h2, by rwa [List.length_map] at h3, fun i x hx j u hu => h4 i (orE x) (by rw [List.getElem?_map, hx]; rfl) j u hu⟩
/-- A row of orders in a block of its own, if there is one. -/
def RowS (A : Option Addr) (S : List Od) (w : World) : Prop := S = [] ∨ ∃ g cap, A = some ⟨g, 0, none⟩ ∧ Rw encO 6 61 g cap S w
theorem RowS.sl {A : Option Addr} {S : List Od} {w : World} (h : RowS A S w) : Sl encO 6 w w.heap.size A S := by
  rcases h with rfl | ⟨g, cap, rfl, hr⟩
  · exact fun h => absurd rfl h
  · exact fun _ => ⟨g, 0, rfl, hr.lt, fun i x hx j u hu => by rw [Nat.zero_add]; exact hr.cell hx hu⟩
theorem RowS.kept {A : Option Addr} {S : List Od} {w w' : World} (h : RowS A S w) (hh : ∀ (g : Nat) (cs : Array Value), w.heap[g]? = some (.cells cs 61 (0, 0)) → w'.heap[g]? = w.heap[g]?) : RowS A S w' := by
  rcases h with rfl | ⟨g, cap, rfl, cur, h1, h2⟩
  · exact Or.inl rfl
  · exact Or.inr ⟨g, cap, rfl, cur, (hh g cur h1).trans h1, h2⟩
theorem RowS.below {A : Option Addr} {S : List Od} {w w' : World} (h : RowS A S w) (hb : Below w.heap.size w w') : RowS A S w' := h.kept fun g _ hg => hb.block g (Array.getElem?_eq_some_iff.1 hg).1
theorem RowS.grown {A : Option Addr} {S : List Od} {w w' : World} (h : RowS A S w) {r : Option Nat} (hg : w.grownBy w' r) (hr : ∀ (g : Nat) (cs : Array Value), w.heap[g]? = some (.cells cs 61 (0, 0)) → some g ≠ r) : RowS A S w' := h.kept fun g cs hc => hg.block g (Array.getElem?_eq_some_iff.1 hc).1 (hr g cs hc)
theorem at_Sort (l : List Od) (A : Option Addr) (cap : Nat) (w : World) (hn : l.length ≤ 1000000) (hsz : ∀ o ∈ l, o.co.size ≤ 32) (hs : Sl encO 6 w w.heap.size A l) :
    Calls Tryz.prog 83 #[.slice A l.length cap] w fun e w' => ∃ A' c', e = .returned (.slice A' l.length c') ∧ RowS A' (sortO l) w' ∧ Below w.heap.size w w' := by
  have HC := Lib.hid (od_Clone l A cap w hn hs)
  have HM := Lib.hid (map_orE hsz)
  have HN := Lib.hid hn
  clear hs hsz hn
  go_enter Tryz.func83, Tryz.ntmps83
  go_wp2_with fail
  refine HC.out.mono ?_
  rintro e w1 ⟨v, rfl, ho, hb⟩
  have HB := Lib.hid hb
  clear hb HC
  rcases ownRw encO_len ho with ⟨rfl, rfl⟩ | ⟨g, c, rfl, hg, hr⟩
  · clear ho
    go_wp2_with fail
    refine (sortNil _ _).mono ?_
    rintro e w2 ⟨rfl, rfl⟩
    go_wp2
    go_ret
    exact ⟨none, 0, rfl, Or.inl rfl, HB.out⟩
  · have hrow : RowE g c (l.map mkE) w1 := by rw [rw_map, HM.out]; exact hr
    have HST : Hid (Calls Tryz.prog 106 #[.slice (some ⟨g, 0, none⟩) l.length c, .func (.func 107) #[] #[]] w1 fun e w' => e = .returned (.tuple #[]) ∧ w1.grownBy w' (some g) ∧ RowE g c (ss lt (l.map mkE)) w') := Lib.hid (by
      have h := sortStable g c (l.map mkE) w1 (by rw [List.length_map]; exact HN.out) hrow
      rw [List.length_map] at h
      exact h)
    have HG := Lib.hid hg
    clear ho hr hrow hg
    go_wp2_with fail
    refine HST.out.mono ?_
    rintro e w2 ⟨rfl, hg2, hr2⟩
    have HR2 := Lib.hid (rw_map.1 hr2)
    have HB2 : Hid (Below w.heap.size w w2) := Lib.hid (HB.out.grown hg2 HB.out.size (fun j hj => by cases hj; exact HG.out))
    clear hg2 hr2 HST
    go_wp2
    go_ret
    exact ⟨_, _, rfl, Or.inr ⟨g, c, rfl, HR2.out⟩, HB2.out⟩
end Go.Proofs.YtgepbkldgnjpfaaGreatDoor.Ao

/- attach.Take: the plain part. -/
namespace Go.Proofs.YtgepbkldgnjpfaaGreatDoor
open Go.RowKit Go.Sort Go.BigFrame Go.Maps

/-- What an order takes of what is left. -/
def takO (net : Int) (was : Ass ByteArray Int) (left : Int) (x : Od) : Int := max (leaL (wanO net x) [lefO was x, left - x.pr]) 0
def attGo (net : Int) (was : Ass ByteArray Int) : Int → Ass ByteArray Int → List It → List Od → List It × Ass ByteArray Int × Int
  | _, out, it, [] => (it, out, 0)
  | left, out, it, x :: r =>
    if amtB (g0 was x.co) = false then ([], [], 2)
    else if fitB (g0 was x.co + takO net was left x) = false then ([], [], 9)
    else attGo net was (left - takO net was left x) ((x.co, g0 was x.co + takO net was left x) :: out) (if 0 < takO net was left x then it ++ [(x.co, takO net was left x)] else it) r
theorem attGo_cons (net : Int) (was : Ass ByteArray Int) (left : Int) (out : Ass ByteArray Int) (it : List It) (x : Od) (r : List Od) : attGo net was left out it (x :: r) = if amtB (g0 was x.co) = false then ([], [], 2)
    else if fitB (g0 was x.co + takO net was left x) = false then ([], [], 9)
    else attGo net was (left - takO net was left x) ((x.co, g0 was x.co + takO net was left x) :: out) (if 0 < takO net was left x then it ++ [(x.co, takO net was left x)] else it) r := rfl
/-- What orders take of a net, what was taken so far; or what is wrong. -/
def attL (net : Int) (was : Ass ByteArray Int) (l : List Od) : List It × Ass ByteArray Int × Int :=
  if fitB net = false then ([], [], 2) else if attE l ≠ 0 then ([], [], attE l) else attGo net was net was [] (Ao.sortO l)
theorem takO_bd {net : Int} {was : Ass ByteArray Int} {left : Int} {x : Od} : 0 ≤ takO net was left x ∧ (takO net was left x ≤ lefO was x ∨ takO net was left x = 0) ∧ (takO net was left x ≤ left - x.pr ∨ takO net was left x = 0) := by
  unfold takO leaL
  simp only [List.foldl_cons, List.foldl_nil]
  omega
theorem lefO_bd {was : Ass ByteArray Int} {x : Od} : 0 ≤ lefO was x ∧ lefO was x ≤ 1125899906842624 := by
  unfold lefO
  split
  · omega
  split
  · omega
  · omega
theorem nameB_len {s : ByteArray} (h : nameB (ls s) = true) : s.size ≤ 32 := by
  unfold nameB at h
  simp only [Bool.and_eq_true, decide_eq_true_eq] at h
  rw [ls_len] at h
  exact h.2
theorem attE_ok {l : List Od} (h : attE l = 0) : ∀ o ∈ l, nameB (ls o.co) = true ∧ ordBad o = false := by
  unfold attE at h
  split at h
  · cases h
  · exact fun o ho => ⟨(chkO_ok l [] h o ho).1, (chkO_ok l [] h o ho).2.1⟩
theorem attE_len {l : List Od} (h : attE l = 0) : l.length ≤ 64 := by
  unfold attE at h
  split at h
  · cases h
  · omega
structure AttW (ob : Nat) (w : World) (n : Nat) (out : Ass ByteArray Int) (A : Option Addr) (S : List Od) (ov : Value) (it : List It) (wr : World) : Prop where
  be : Below w.heap.size w wr
  oo : OmC out n ob wr
  ow : Own encI 2 65 w.heap.size ov it wr
  rs : Ao.RowS A S wr
  fr : w.heap.size ≤ ob
theorem AttW.below {ob n : Nat} {w wr wr' : World} {out : Ass ByteArray Int} {A : Option Addr} {S : List Od} {ov : Value} {it : List It} (h : AttW ob w n out A S ov it wr) (hb : Below wr.heap.size wr wr') : AttW ob w n out A S ov it wr' where
  be := h.be.trans (hb.mono h.be.size)
  oo := hmBel h.oo hb
  ow := h.ow.none_ ⟨hb.os, hb.tape, hb.output, hb.size, fun i hi _ => hb.block i hi⟩
  rs := h.rs.below hb
  fr := h.fr
theorem AttW.put {ob n : Nat} {w wr wr' : World} {out out' : Ass ByteArray Int} {A : Option Addr} {S : List Od} {ov : Value} {it : List It} (h : AttW ob w n out A S ov it wr) (hg : wr.grownBy wr' (some ob)) (ho : OmC out' (n + 1) ob wr') : AttW ob w (n + 1) out' A S ov it wr' where
  be := h.be.grown hg h.be.size (fun j hj => by cases hj; exact h.fr)
  oo := ho
  ow := h.ow.kept hg (Or.inr fun e => ownNeMap h.ow h.oo e.symm)
  rs := h.rs.grown hg fun g cs hc e => by
    cases e
    obtain ⟨es, ck, hb, _⟩ := h.oo
    rw [hb] at hc
    cases hc
  fr := h.fr
theorem AttW.add {ob n : Nat} {w wr wr' : World} {out : Ass ByteArray Int} {A : Option Addr} {S : List Od} {ov v' : Value} {it it' : List It} (h : AttW ob w n out A S ov it wr) (hg : wr.grownBy wr' ov.ownBlock) (ho : Own encI 2 65 w.heap.size v' it' wr') : AttW ob w n out A S v' it' wr' where
  be := h.be.trans (grownBelowI hg (fun k hk => (h.ow.lt hk).1) h.be.size)
  oo := h.oo.kept hg (ownNeMap h.ow h.oo)
  ow := ho
  rs := h.rs.grown hg fun g cs hc e => by
    have := h.ow.ne_ (g := g) (t := 61) (cs := cs) hc (by decide)
    exact this e
  fr := h.fr
end Go.Proofs.YtgepbkldgnjpfaaGreatDoor

/- attach.Take: the walk. -/
namespace Go.Proofs.YtgepbkldgnjpfaaGreatDoor
open Go.RowKit Go.Sort Go.BigFrame Go.Maps

set_option maxHeartbeats 4000000 in
set_option maxRecDepth 100000 in
theorem at_Take (net : Int) (was : Ass ByteArray Int) (n0 : Nat) (V : Value) (l : List Od) (A : Option Addr) (cap : Nat) (w : World) (hn : l.length ≤ 1000000) (hsz : ∀ x ∈ l, x.co.size ≤ 9223372036854775807) (hm : MpC was n0 V w) (hn0 : n0 ≤ 1000000000) (hs : Sl encO 6 w w.heap.size A l) :
    Calls Tryz.prog 42 #[.int .i64 net, V, .slice A l.length cap] w fun e w' => ∃ v1 v2, e = .returned (.tuple #[v1, v2, .int .i64 (attL net was l).2.2]) ∧ Own encI 2 65 w.heap.size v1 (attL net was l).1 w' ∧ MpC (attL net was l).2.1 (n0 + 64) v2 w' ∧ NewM w.heap.size v2 ∧ Below w.heap.size w w' := by
  obtain ⟨R, hR⟩ : ∃ R, attL net was l = R := ⟨_, rfl⟩
  rw [hR]
  obtain ⟨fn, hfn⟩ : ∃ q, fitB net = q := ⟨_, rfl⟩
  obtain ⟨ae, hae⟩ : ∃ q, attE l = q := ⟨_, rfl⟩
  obtain ⟨S, hS⟩ : ∃ q, Ao.sortO l = q := ⟨_, rfl⟩
  have HR : Hid (R = if fn = false then ([], [], 2) else if ae ≠ 0 then ([], [], ae) else attGo net was net was [] S) := Lib.hid (by rw [← hR, ← hfn, ← hae, ← hS]; rfl)
  have HF : Hid (∀ W, Calls Tryz.prog 22 #[.int .i64 net] W fun e w' => e = .returned (.bool fn) ∧ W = w') := Lib.hid fun W => by rw [← hfn]; exact ce_fit net W
  have HCH : Hid (Calls Tryz.prog 82 #[.slice A l.length cap] w fun e w' => e = .returned (.int .i64 ae) ∧ Below w.heap.size w w') := Lib.hid (by rw [← hae]; exact at_Check l A cap w hn hsz hs)
  have HNB : Hid (fn = true → -1125899906842624 ≤ net ∧ net ≤ 1125899906842624) := Lib.hid fun h => fitB_bd (hfn.trans h)
  have HAE : Hid (ae = 0 → (∀ o ∈ l, nameB (ls o.co) = true ∧ ordBad o = false) ∧ l.length ≤ 64) := Lib.hid fun h => ⟨attE_ok (hae.trans h), attE_len (hae.trans h)⟩
  have HSO : Hid (ae = 0 → (∀ W, Below w.heap.size w W → Calls Tryz.prog 83 #[.slice A l.length cap] W fun e w' => ∃ A' c', e = .returned (.slice A' l.length c') ∧ Ao.RowS A' S w' ∧ Below W.heap.size W w') ∧ S.length = l.length ∧ ∀ o ∈ S, nameB (ls o.co) = true ∧ ordBad o = false) := Lib.hid fun h => by
    have h1 := attE_ok (hae.trans h)
    have h2 : ∀ o ∈ l, o.co.size ≤ 32 := fun o ho => nameB_len (h1 o ho).1
    have h3 := Ao.sortO_perm h2
    rw [hS] at h3
    refine ⟨fun W hW => ?_, h3.length_eq, fun o ho => h1 o (h3.mem_iff.1 ho)⟩
    have := Ao.at_Sort l A cap W hn h2 (hs.below hW)
    rw [hS] at this
    exact this
  have HM := Lib.hid hm
  have HN0 := Lib.hid hn0
  have hmm := @run_makeMap Tryz.prog
  clear hR hfn hae hS hs hm hsz hn0
  go_enter Tryz.func42, Tryz.ntmps42
  go_wp2_with fail
  refine (HF.out _).mono ?_
  rintro e w1 ⟨rfl, rfl⟩
  cases fn with
  | false =>
    have HE : Hid (R = ([], [], 2)) := Lib.hid (by rw [HR.out, if_pos rfl])
    go_wp2
    go_ret3
    rw [HE.out]
    exact ⟨_, _, rfl, Own.nil _, MapV.nil, NewM.nil, Below.refl _ _⟩
  | true =>
  go_wp2_with fail
  refine HCH.out.mono ?_
  rintro e w1 ⟨rfl, hb1⟩
  have HB1 := Lib.hid hb1
  clear hb1 HCH HF
  by_cases hae : ae = 0
  case neg =>
    have nz : (ae != 0) = true := by simpa using hae
    have HE : Hid (R = ([], [], ae)) := Lib.hid (by rw [HR.out, if_neg (by simp), if_pos hae])
    clear hae
    go_wp2
    go_ret3
    rw [HE.out]
    exact ⟨_, _, rfl, Own.nil _, MapV.nil, NewM.nil, HB1.out⟩
  subst hae
  have HA0 : Hid (attGo net was net was [] S = R) := Lib.hid (by rw [HR.out, if_neg (by simp), if_neg (by simp)])
  have HNT := Lib.hid (HNB.out trivial)
  obtain ⟨hso1, hso2, hso3⟩ := HSO.out rfl
  have HSW := Lib.hid hso1
  have HOK := Lib.hid hso3
  have HLE : Hid (S.length = l.length ∧ l.length ≤ 64) := Lib.hid ⟨hso2, (HAE.out rfl).2⟩
  clear HR HNB HAE HSO hso1 hso2 hso3
  obtain ⟨ob, hob⟩ : ∃ x, w1.heap.size = x := ⟨_, rfl⟩
  obtain ⟨rb, hrb⟩ : ∃ x, ob + 1 = x := ⟨_, rfl⟩
  obtain ⟨w2, hw2⟩ : ∃ x, w1.alloc (.map #[] 0) = x := ⟨_, rfl⟩
  have k1 : OmC [] 0 ob w2 := by
    have := World.ownsMap_made (H := Value) w1 Tryz.prog 9 heldV
    rw [hob, hw2] at this
    exact this
  have hb2 : Below w.heap.size w w2 := bTrans HB1.out (by rw [← hw2]; exact bAlloc w1 _)
  have hsz2 : w2.heap.size = rb := by rw [← hw2]; simp; omega
  have HK := Lib.hid (And.intro k1 hb2)
  have HFR : Hid (w.heap.size ≤ ob ∧ ob ≠ rb ∧ w.heap.size ≤ rb ∧ V ≠ .map (some ob)) := Lib.hid (by
    have := HB1.out.size
    refine ⟨by omega, by omega, by omega, fun h => ?_⟩
    have := HM.out.lt h
    omega)
  have HM2 : Hid (MpC was n0 V w2) := Lib.hid (HM.out.below hb2)
  clear k1 hb2 HB1
  go_wp2_with (at_range; refine wpList_rangeV _ rfl _ 31 rfl 9 28 keyT Tryz.underlying31 V n0 rfl HM2.out ?_)
  intro w3 c0 hrg hc0 hg0
  have HC0 := Lib.hid (And.intro (HK.out.1.kept hg0 (by simp)) (HK.out.2.grown hg0 HK.out.2.size (fun j hj => by cases hj)))
  have HRG := Lib.hid hrg
  have HCN := Lib.hid hc0
  clear hrg hc0 hg0 hmm hob hrb hw2
  go_wp2
  go_loopg [29] c0 (fun k _ wr => ∃ (c : Nat) (left : Lit → Bool) (Dout : DataW Value), c = k ∧ c ≤ n0 ∧ Hid (RgV 9 V rb n0 (dA kS aggC was) left c wr) ∧ Hid (Agree Dout (dA kS aggC was) left) ∧ Hid (wr.ownsMap Tryz.prog 9 heldV ob (n0 - c) Dout) ∧ Hid (Below w.heap.size w wr))
  case atStart => exact ⟨c0, _, .map [], rfl, HCN.out, HRG, Lib.hid (agree_start _), Lib.hid (HC0.out.1.mono (Nat.zero_le _)), Lib.hid HC0.out.2⟩
  case round =>
    obtain ⟨c, left, Dout, hck, hk, HRG, HAG, HOO, HBE⟩ := hrel
    go_wp2_with (first
      | (at_next; refine wpList_nextV _ rfl _ rfl 9 keyT kS_W Value.string keyInvS V rb n0 _ _ rfl HRG.out ?_ ?_)
      | go_in)
    · intro hl0 hc0
      have hD := agree_end HAG.out hl0 (HOO.out.canon keyT) (HRG.out.canon keyT)
      have HOC : Hid (OmC was n0 ob wr) := Lib.hid (by have := HOO.out; rw [hD] at this; exact this.mono (by omega))
      clear hD hl0 hc0 HAG HOO HRG HC0 HK HM2 HCN
      go_wp2_with fail
      refine (HSW.out _ HBE.out).mono ?_
      rintro e w5 ⟨A', c', rfl, hrs, hb5⟩
      have HI0 : Hid (AttW ob w n0 was A' S (.slice none 0 0) [] w5) := Lib.hid {
        be := HBE.out.trans (hb5.mono HBE.out.size)
        oo := hmBel HOC.out hb5
        ow := Own.nil _
        rs := hrs
        fr := HFR.out.1 }
      clear hrs hb5 HOC HBE
      rw [← HLE.out.1]
      have HL64 : Hid (S.length ≤ 64) := Lib.hid (by have := HLE.out; omega)
      clear HLE
      go_wp2
      go_loopg [13, 14, 41] S.length (fun k ov lv iv wr => ∃ (sv : Value) (n : Nat) (lf : Int) (out : Ass ByteArray Int) (it : List It), sv = ov ∧ n + k = S.length ∧ iv = .int .i64 n ∧ lv = .int .i64 lf ∧ it.length ≤ n ∧ Hid (attGo net was lf out it (S.drop n) = R) ∧ Hid (-1125899906842624 ≤ lf ∧ lf ≤ 1125899906842624) ∧ Hid (AttW ob w (n0 + n) out A' S ov it wr))
      case atStart => exact ⟨_, 0, net, was, [], rfl, Nat.zero_add _, rfl, rfl, Nat.le_refl _, HA0, HNT, HI0⟩
      case round =>
        obtain ⟨ov, n, lf, out, it, rfl, hn1, rfl, rfl, hol, HA, HLF, HW⟩ := hrel
        by_cases hlt : n < S.length
        · obtain ⟨b, off, rfl, hB, hc⟩ := HW.out.rs.sl (by intro h; simp [h] at hlt)
          obtain ⟨x, hx⟩ : ∃ x, S[n]? = some x := ⟨_, List.getElem?_eq_getElem hlt⟩
          have hdrop : S.drop n = x :: S.drop (n + 1) := by
            rw [List.drop_eq_getElem_cons hlt]
            congr 1
            have := List.getElem?_eq_getElem hlt
            rw [hx] at this
            exact (Option.some.inj this).symm
          have hok := HOK.out x (List.mem_of_getElem? hx)
          have hco := nameB_len hok.1
          have hbd := ordBad_ok hok.2
          have C0 : wr.cell? ⟨b, off + n * 6, none⟩ = some (.string x.co) := by simpa using hc n _ hx 0 _ rfl
          have C1 : wr.cell? ⟨b, off + n * 6 + 1, none⟩ = some (.int .i64 x.ra) := hc n _ hx 1 _ rfl
          have C2 : wr.cell? ⟨b, off + n * 6 + 2, none⟩ = some (.int .i64 x.rt) := hc n _ hx 2 _ rfl
          have C3 : wr.cell? ⟨b, off + n * 6 + 3, none⟩ = some (.int .i64 x.fx) := hc n _ hx 3 _ rfl
          have C4 : wr.cell? ⟨b, off + n * 6 + 4, none⟩ = some (.int .i64 x.pr) := hc n _ hx 4 _ rfl
          have C5 : wr.cell? ⟨b, off + n * 6 + 5, none⟩ = some (.int .i64 x.tt) := hc n _ hx 5 _ rfl
          obtain ⟨gw, hgw⟩ : ∃ y, g0 was x.co = y := ⟨_, rfl⟩
          obtain ⟨c1, hc1⟩ : ∃ y, takO net was lf x = y := ⟨_, rfl⟩
          obtain ⟨wn, hwn⟩ : ∃ y, wanO net x = y := ⟨_, rfl⟩
          obtain ⟨le, hle⟩ : ∃ y, lefO was x = y := ⟨_, rfl⟩
          have hrec := attGo_cons net was lf out it x (S.drop (n + 1))
          rw [hgw, hc1] at hrec
          have HD : Hid (R = if amtB gw = false then ([], [], 2) else if fitB (gw + c1) = false then ([], [], 9) else attGo net was (lf - c1) ((x.co, gw + c1) :: out) (if 0 < c1 then it ++ [(x.co, c1)] else it) (S.drop (n + 1))) := Lib.hid (by rw [← HA.out, hdrop]; exact hrec)
          have htk := takO_bd (net := net) (was := was) (left := lf) (x := x)
          have hlb := lefO_bd (was := was) (x := x)
          have htd : takO net was lf x = max (leaL (wanO net x) [lefO was x, lf - x.pr]) 0 := rfl
          rw [hc1, hle] at htk
          rw [hle] at hlb
          rw [hc1, hle, hwn] at htd
          have HWN : Hid (∀ W, Calls Tryz.prog 86 #[.int .i64 net, .agg #[.string x.co, .int .i64 x.ra, .int .i64 x.rt, .int .i64 x.fx, .int .i64 x.pr, .int .i64 x.tt]] W fun e w' => e = .returned (.int .i64 wn) ∧ Below W.heap.size W w') := Lib.hid fun W => by rw [← hwn]; exact at_wants net x W HNT.out.2 hbd.2.1
          have HLF2 : Hid (∀ W, MpC was n0 V W → Calls Tryz.prog 87 #[V, .agg #[.string x.co, .int .i64 x.ra, .int .i64 x.rt, .int .i64 x.fx, .int .i64 x.pr, .int .i64 x.tt]] W fun e w' => e = .returned (.int .i64 le) ∧ Below W.heap.size W w') := Lib.hid fun W h => by rw [← hle]; exact at_Left was n0 V x W h (by omega) hbd.2.2.2.2
          have HKY : Hid (keyOf Tryz.prog 9 (.string x.co) = some (kS x.co)) := Lib.hid (keyOfS (by unfold maxLen; omega))
          have HGW : Hid (∀ W, MpC was n0 V W → (Instr.lookup 31 V (.string x.co) false).run Tryz.prog W = .ok (.int .i64 gw) W) := Lib.hid fun W h => by
            have := h.look keyT kS_W Tryz.underlying31 (zeroCe W) HKY.out
            rw [lkC, hgw] at this
            exact this
          have HPR : Hid (0 ≤ x.pr ∧ x.pr ≤ 1125899906842624) := Lib.hid hbd.2.2.2.1
          clear hc hx hdrop hok hbd hgw hc1 hwn hle hrec HA hco
          obtain ⟨co, ra, rt, fx, pr, tt⟩ := x
          dsimp only at *
          obtain ⟨fb, hfb⟩ : ∃ y, wr.heap.size = y := ⟨_, rfl⟩
          obtain ⟨wa, hwa⟩ : ∃ y, wr.alloc (.cells #[.string co, .int .i64 ra, .int .i64 rt, .int .i64 fx, .int .i64 pr, .int .i64 tt] 61) = y := ⟨_, rfl⟩
          have HB0 : Hid (Bk fb 61 #[.string co, .int .i64 ra, .int .i64 rt, .int .i64 fx, .int .i64 pr, .int .i64 tt] wa) := Lib.hid (by rw [← hwa, ← hfb]; exact Bk.new _ _ _)
          have HW1 : Hid (AttW ob w (n0 + n) out (some ⟨b, off, none⟩) S ov it wa) := Lib.hid (by rw [← hwa]; exact HW.out.below (bAlloc _ _))
          have HNE : Hid (fb ≠ ob) := Lib.hid (by have := HW.out.oo.lt; omega)
          have D0 : wa.cell? ⟨fb, 0, none⟩ = some (.string co) := HB0.out.cell 0
          have hlta := HB0.out.lt
          have HLK1 : Hid ((Instr.lookup 31 V (.string co) false).run Tryz.prog wa = .ok (.int .i64 gw) wa) := Lib.hid (HGW.out wa (HM.out.below HW1.out.be))
          have HWF := Lib.hid (And.intro hfb hwa)
          clear hfb hwa HW
          go_upto_region 16 with fail
          rw [HWF.out.1, HWF.out.2]
          clear HWF C0 C1 C2 C3 C4 C5
          obtain ⟨ag, hag⟩ : ∃ y, amtB gw = y := ⟨_, rfl⟩
          have HX1 : Hid (∀ A cap W, Sl encC 1 W W.heap.size A [gw] → Calls Tryz.prog 84 #[.slice A 1 cap] W fun e w' => e = .returned (.bool ag) ∧ W = w') := Lib.hid fun A cap W h => by have h2 := at_amounts [gw] A cap W (by simp) h; rw [List.all_cons, List.all_nil, Bool.and_true, hag] at h2; exact h2
          have HAG := Lib.hid hag
          rw [hag] at HD
          clear hag
          go_wp2_with (at_lookup; refine wpList_look _ rfl _ _ _ _ rfl _ _ _ rfl rfl HLK1.out ?_)
          refine (HX1.out _ _ _ ?_).mono ?_
          · have := slNewC wa 28 [gw]
            simpa using this
          rintro e w6 ⟨rfl, rfl⟩
          obtain ⟨wb, hwb⟩ : ∃ y, wa.alloc (.cells #[.int .i64 gw] 28) = y := ⟨_, rfl⟩
          have HWB : Hid (AttW ob w (n0 + n) out (some ⟨b, off, none⟩) S ov it wb) := Lib.hid (by rw [← hwb]; exact HW1.out.below (bAlloc _ _))
          have HBB := Lib.hid (HB0.out.grows (by rw [← hwb]; exact Grows.of_alloc wa _ : Grows wa wb))
          rw [hwb]
          clear hwb D0 hlta HLK1 HX1 HB0 HW1
          cases ag with
          | false =>
            have HE : Hid (R = ([], [], 2)) := Lib.hid (by rw [HD.out, if_pos rfl])
            go_wp2
            go_ret3
            rw [HE.out]
            exact ⟨_, _, rfl, Own.nil _, MapV.nil, NewM.nil, HWB.out.be⟩
          | true =>
          have HD1 : Hid (R = if fitB (gw + c1) = false then ([], [], 9) else attGo net was (lf - c1) ((co, gw + c1) :: out) (if 0 < c1 then it ++ [(co, c1)] else it) (S.drop (n + 1))) := Lib.hid (by rw [HD.out]; simp only [Bool.true_eq_false, ↓reduceIte])
          have hgwb := amtB_bd HAG.out
          have hlfb := HLF.out
          have hprb := HPR.out
          obtain ⟨df, hdf⟩ : ∃ y, lf - pr = y := ⟨_, rfl⟩
          have v1 : IntKind.i64.wrap (lf - pr) = df := by rw [IntWalk.i64_in _ (by omega), hdf]
          rw [hdf] at htk htd
          obtain ⟨lm, hlm⟩ : ∃ y, leaL wn [le, df] = y := ⟨_, rfl⟩
          rw [hlm] at htd
          have HLS : Hid (∀ A cap W, Sl encC 1 W W.heap.size A [wn, le, df] → Calls Tryz.prog 85 #[.slice A 3 cap] W fun e w' => e = .returned (.int .i64 lm) ∧ W = w') := Lib.hid fun A cap W h => by rw [← hlm]; exact at_least wn [le, df] A cap W (by simp) h
          obtain ⟨sm, hsm⟩ : ∃ y, gw + c1 = y := ⟨_, rfl⟩
          obtain ⟨l2, hl2⟩ : ∃ y, lf - c1 = y := ⟨_, rfl⟩
          have v2 : IntKind.i64.wrap (gw + c1) = sm := by rw [IntWalk.i64_in _ (by omega), hsm]
          have v3 : IntKind.i64.wrap (lf - c1) = l2 := by rw [IntWalk.i64_in _ (by omega), hl2]
          rw [hsm, hl2] at HD1
          have HL2 : Hid (-1125899906842624 ≤ l2 ∧ l2 ≤ 1125899906842624) := Lib.hid (by omega)
          have HMX : Hid (max lm 0 = c1) := Lib.hid htd.symm
          have v4 : max lm 0 = c1 := htd.symm
          clear hgwb hlfb hprb htk hlb htd hlm hsm hl2 HD hdf
          have HKP : Hid (∀ W, Below wb.heap.size wb W → W.cell? ⟨fb, 0, none⟩ = some (.string co) ∧ W.cell? ⟨fb, 1, none⟩ = some (.int .i64 ra) ∧ W.cell? ⟨fb, 2, none⟩ = some (.int .i64 rt) ∧ W.cell? ⟨fb, 3, none⟩ = some (.int .i64 fx) ∧ W.cell? ⟨fb, 4, none⟩ = some (.int .i64 pr) ∧ W.cell? ⟨fb, 5, none⟩ = some (.int .i64 tt)) := Lib.hid fun W hW => by
            have e := bkBel HBB.out hW
            exact ⟨e.cell 0, e.cell 1, e.cell 2, e.cell 3, e.cell 4, e.cell 5⟩
          have HX : Hid (Below wb.heap.size wb wb.drew) := Lib.hid (bDrew wb)
          obtain ⟨E0, E1, E2, E3, E4, E5⟩ := HKP.out wb (Below.refl _ _)
          have hltb := HBB.out.lt
          have HMB : Hid (∀ W, Below wb.heap.size wb W → MpC was n0 V W) := Lib.hid fun W hW => HM.out.below (HWB.out.below hW).be
          have HSL : Hid (∀ W : World, Sl encC 1 (W.alloc (.cells #[.int .i64 wn, .int .i64 le, .int .i64 df] 28)) (W.alloc (.cells #[.int .i64 wn, .int .i64 le, .int .i64 df] 28)).heap.size (some ⟨W.heap.size, 0, none⟩) [wn, le, df]) := Lib.hid fun W => by
            have := slNewC W 28 [wn, le, df]
            simpa using this
          go_wp2_with fail
          go_region_held3 (fun W => W.cell? ⟨fb, 0, none⟩ = some (.string co) ∧ W.cell? ⟨fb, 1, none⟩ = some (.int .i64 ra) ∧ W.cell? ⟨fb, 2, none⟩ = some (.int .i64 rt) ∧ W.cell? ⟨fb, 3, none⟩ = some (.int .i64 fx) ∧ W.cell? ⟨fb, 4, none⟩ = some (.int .i64 pr) ∧ W.cell? ⟨fb, 5, none⟩ = some (.int .i64 tt)) (first | exact HKP.out _ HX.out | exact HKP.out _ (bTrans HX.out (bAlloc _ _)) | go_keep) (first | (go_at_call 86; (with_reducible refine (HWN.out _).mono ?_); rintro e wm ⟨rfl, hbn⟩; replace HX := Lib.hid (bTrans HX.out hbn); clear hbn) | (go_at_call 87; (with_reducible refine (HLF2.out _ (HMB.out _ HX.out)).mono ?_); rintro e wm ⟨rfl, hbn⟩; replace HX := Lib.hid (bTrans HX.out hbn); clear hbn) | (go_at_call 85; (with_reducible refine (HLS.out _ _ _ (HSL.out _)).mono ?_); rintro e wm ⟨rfl, rfl⟩))
          obtain ⟨wd, hwd⟩ : ∃ y, wm.alloc (.cells #[.int .i64 wn, .int .i64 le, .int .i64 df] 28) = y := ⟨_, rfl⟩
          have hbd : Below wb.heap.size wb wd := by rw [← hwd]; exact bTrans HX.out (bAlloc _ _)
          have HWD := Lib.hid (HWB.out.below hbd)
          have HBD := Lib.hid (bkBel HBB.out hbd)
          have HLK := Lib.hid (HGW.out wd (HM.out.below HWD.out.be))
          have F0 : wd.cell? ⟨fb, 0, none⟩ = some (.string co) := HBD.out.cell 0
          have hltd := HBD.out.lt
          rw [hwd]
          clear hbd hwd HX E0 E1 E2 E3 E4 E5 hltb HKP HMB HSL HLS v1 HWN HLF2
          go_wp2_with (at_lookup; refine wpList_look _ rfl _ _ _ _ rfl _ _ _ rfl rfl HLK.out ?_)
          refine (ce_fit _ _).mono ?_
          rintro e w7 ⟨rfl, rfl⟩
          obtain ⟨fs, hfs⟩ : ∃ y, fitB sm = y := ⟨_, rfl⟩
          rw [hfs] at HD1 ⊢
          clear hfs
          cases fs with
          | false =>
            have HE : Hid (R = ([], [], 9)) := Lib.hid (by rw [HD1.out, if_pos rfl])
            go_wp2
            go_ret3
            rw [HE.out]
            exact ⟨_, _, rfl, Own.nil _, MapV.nil, NewM.nil, HWD.out.be⟩
          | true =>
          have HD3 : Hid (attGo net was l2 ((co, sm) :: out) (if 0 < c1 then it ++ [(co, c1)] else it) (S.drop (n + 1)) = R) := Lib.hid (by rw [HD1.out]; simp only [Bool.true_eq_false, ↓reduceIte])
          have HND : Hid (n0 + n < maxLen) := Lib.hid (by have := HN0.out; have := HL64.out; unfold maxLen; omega)
          clear HD1
          go_wp2_with (first
            | (at_lookup; refine wpList_look _ rfl _ _ _ _ rfl _ _ _ rfl rfl HLK.out ?_)
            | (at_mapUpdate; refine wpList_mapUpdate_own _ rfl _ _ _ 31 rfl 9 28 keyT Tryz.underlying31 heldV ob (n0 + n) _ rfl HWD.out.oo HND.out _ _ _ rfl rfl HKY.out _ [] rfl ?_))
          intro w8 hm8 hg8
          have HW8 := Lib.hid (HWD.out.put (out' := (co, sm) :: out) hg8 hm8)
          have hb8 := HBD.out.grownBy hg8 (fun e => HNE.out (Option.some.inj e))
          have F8 : w8.cell? ⟨fb, 0, none⟩ = some (.string co) := hb8.cell 0
          have hlt8 := hb8.lt
          clear hm8 hg8 hb8 F0 hltd HLK HWD HBD HBB HWB
          by_cases hp : 0 < c1
          · have d1 : decide ((0 : Int) < c1) = true := decide_eq_true hp
            have HD4 : Hid (attGo net was l2 ((co, sm) :: out) (it ++ [(co, c1)]) (S.drop (n + 1)) = R) := Lib.hid (by have := HD3.out; rw [if_pos hp] at this; exact this)
            have HLE : it.length + 1 ≤ 1000000000 := by have := HL64.out; omega
            have GA : Hid (∀ o, (w8.alloc o).cell? ⟨fb, 0, none⟩ = some (.string co)) := Lib.hid fun o => (World.cell?_alloc_lt _ _ _ hlt8).trans F8
            have h64 := HL64.out
            clear hp HD3 v4
            go_upto_region 24 with fail
            go_wp2_with ((at_builtin; refine wpList_append_row encI_len encI_one rfl _ _ 46 rfl w.heap.size 65 _ 24 Tryz.underlying46 itemInfo rfl (by decide) _ it (co, c1) rfl (HW8.out.ow.alloc _) w8.heap.size 1 rfl (newsI (co, c1) w8) HLE (by decide) (Nat.le_trans HW8.out.be.size (Grows.of_alloc w8 _).size) ?_))
            intro v9 w9 hown9 hgr9
            have HW9 := Lib.hid ((HW8.out.below (bAlloc w8 _)).add hgr9 hown9)
            clear hown9 hgr9
            go_wp2
            go_roundg (S.length - (n + 1))
            case measure => omega
            case rel => exact ⟨_, n + 1, l2, _, _, rfl, by omega, by go_num, rfl, by simp; omega, HD4, HL2, HW9⟩
          · have d1 : decide ((0 : Int) < c1) = false := decide_eq_false hp
            have HD4 : Hid (attGo net was l2 ((co, sm) :: out) it (S.drop (n + 1)) = R) := Lib.hid (by have := HD3.out; rw [if_neg hp] at this; exact this)
            have h64 := HL64.out
            clear hp HD3 v4
            go_wp2
            go_roundg (S.length - (n + 1))
            case measure => omega
            case rel => exact ⟨_, n + 1, l2, _, it, rfl, by omega, by go_num, rfl, by omega, HD4, HL2, HW8⟩
        · obtain rfl : n = S.length := by omega
          go_wp2
          go_ret3
          have h := HA.out
          rw [List.drop_length] at h
          have hi := HW.out
          refine ⟨_, _, by rw [← h]; rfl, by rw [← h]; exact hi.ow, by rw [← h]; exact Or.inr ⟨ob, rfl, hi.oo.mono (by have := HL64.out; omega)⟩, (by intro b e; cases e; exact hi.fr), hi.be⟩
    · intro key x w1 cnt1 hkey hx hlx hat hrg1 hlt hg1 hen
      simp only [aggC] at hen ⊢
      have HOUT := Lib.hid (HOO.out.kept hg1 (fun e => HFR.out.2.1 (Option.some.inj e)))
      have HBEB := Lib.hid (HBE.out.grown hg1 HBE.out.size (fun j hj => by cases hj; exact HFR.out.2.2.1))
      have hnc : n0 - c < maxLen := by have := HN0.out; unfold maxLen; omega
      have HVN : Hid (V ≠ .map none) := Lib.hid (fun e => by
        rcases HRG.out with ⟨_, _, h, _⟩ | ⟨b, h, _⟩
        · omega
        · rw [h] at e; cases e)
      have HRGB := Lib.hid hrg1
      have HKY := Lib.hid hkey
      have HAT := Lib.hid hat
      clear hrg1 hg1 hkey hat HOO HBE
      go_wp2_with (at_mapUpdate; refine wpList_mapUpdate_own _ rfl _ _ _ 31 rfl 9 28 keyT Tryz.underlying31 heldV ob _ _ rfl HOUT.out hnc _ _ _ rfl rfl HKY.out _ [] rfl ?_)
      intro w2 hout2 hg2
      have hrg2 := HRGB.out.kept (Or.inr HVN.out) hg2 (fun b hb e => by cases hb; exact HFR.out.2.2.2 e) (fun e => HFR.out.2.1 (Option.some.inj e).symm)
      have hbe2 := HBEB.out.grown hg2 HBEB.out.size (fun j hj => by cases hj; exact HFR.out.1)
      have HX := Lib.hid (And.intro hrg2 (And.intro hout2 hbe2))
      clear hrg2 hout2 hg2 hbe2
      go_wp2
      go_roundg cnt1
      case measure => omega
      case rel => exact ⟨cnt1, _, _, rfl, by omega, Lib.hid HX.out.1, Lib.hid (agree_step HAG.out HOUT.out.isMap (kS_W.isKey key) HAT.out), Lib.hid (HX.out.2.1.mono (by omega)), Lib.hid HX.out.2.2⟩
end Go.Proofs.YtgepbkldgnjpfaaGreatDoor
