/-
  Walks: line.Join.
-/
import Derived.Deep.OwnRows
import Derived.Test.YtphcebgpllecjaaGreatDoorC21
import Derived.Test.YtphcebgpllecjaaGreatDoorC18
import Derived.Test.YtphcebgpllecjaaGreatDoorC22
set_option linter.unusedVariables false
set_option linter.unusedSimpArgs false
namespace Go.Proofs.YtphcebgpllecjaaGreatDoor
open Go.RowKit Go.Inq
set_option maxHeartbeats 2000000
attribute [local go_sem ↓] Go.wp_at_zero Go.wp_at_succ

/-- The builder at block b holds these bytes. -/
def Bld (b : Nat) (bs : List UInt8) (w : World) : Prop := Lib.IsBuilder 135 5 b b (Lib.byteCells bs) w
theorem Bld.new (w : World) : Bld w.heap.size [] (w.alloc (.cells #[.pointer none, .slice none 0 0] 135)) :=
  .inl ⟨Nat.le_refl _, .slice none 0 0, heap_alloc_new _ _, World.ownsRow_nil _ _ _ _, by simp [Value.ownBlock]⟩
theorem write_any (b : Nat) (bs : List UInt8) (s : ByteArray) (w : World) (h : Bld b bs w) (hl : bs.length + s.size ≤ 1000000) (hb : b ≤ w.heap.size) :
    Calls Tryz.prog 70 #[.pointer (some ⟨b, 0, none⟩), .string s] w fun e w' => ∃ r, e = .returned r ∧ Bld b (bs ++ s.data.toList) w' ∧ Below b w w' := by
  refine (Tryz.Builder_WriteString b b (Lib.byteCells bs) s w h (by rw [Lib.byteCells_length]; omega) hb).mono fun e w' h => ⟨_, h.1, .inr ?_, h.2.2⟩
  have := h.2.1
  rw [Lib.strCells_eq, ← Lib.byteCells_append] at this
  exact this

set_option maxRecDepth 100000 in
theorem ljoin_any (A : Option Addr) (c : Nat) (l : List ByteArray) (w : World) (h : StrS w (Old w) (.slice A l.length c) l) (hn : l.length ≤ 1000000) (hsum : (joinL (byt l)).length ≤ 1000000) (hg : Glob w) :
    Calls Tryz.prog 45 #[.slice A l.length c] w fun e w' => e = .returned (.tuple #[.string (mk (joinR (byt l)).1), .int .i64 (joinR (byt l)).2]) ∧ Below w.heap.size w w' := by
  have hbl : Hid ((byt l).length = l.length) := by unfold Hid byt; simp
  by_cases hl : 400 < l.length
  · have hl2 : (400 : Int) < (l.length : Int) := by omega
    have hr : Hid (joinR (byt l) = ([], 4)) := by unfold Hid joinR; rw [if_pos (by rw [hbl.out]; exact hl)]
    go_enter Tryz.func45, Tryz.ntmps45
    go_wp2
    go_ret2
    exact ⟨by rw [hr.out]; rfl, Below.refl _ _⟩
  · have hl2 : ¬ (400 : Int) < (l.length : Int) := by omega
    have hle := hide (joinL_le l)
    have hnew := Bld.new w
    have B0 : Below w.heap.size w (w.alloc (.cells #[.pointer none, .slice none 0 0] 135)) := (Below.refl _ _).alloc (Nat.le_refl _) _
    go_enter Tryz.func45, Tryz.ntmps45
    go_wp2
    go_loopw [6, 12] (fun _ s12 wr => ∃ i : Nat, i ≤ l.length ∧ s12 = .int .i64 i ∧ Bld w.heap.size (joinL (byt (l.take i))) wr ∧ Below w.heap.size w wr ∧ Hid (∀ j (hj : j < l.length), j < i → ¬ 10 ∈ l[j].data.toList)) (fun _ s12 _ => l.length - (intOf s12).toNat)
    case atStart => exact ⟨0, Nat.zero_le _, by go_num, hnew, B0, fun j _ h => absurd h (by omega)⟩
    case round =>
      obtain ⟨i, hi, rfl, hB, hb, hall⟩ := hrel
      have hgr := Glob.below hg hb
      by_cases hlt : i < l.length
      · have hwr := StrS.keep h (Agree.below hb fun _ h => h) (fun _ h => h)
        obtain ⟨b, off, rfl, hbK, c0⟩ := StrS.at_ hwr hlt
        have hi1 : (0 : Int) ≤ (i : Int) := Int.natCast_nonneg _
        have hi2 : (i : Int) < (l.length : Int) := by omega
        have ht := hide (joinL_take hlt)
        have hmem : Hid (l[i] ∈ l) := List.getElem_mem hlt
        have hl1 := hle.out i
        have hl3 := hle.out (i + 1)
        have hsz : l[i].size ≤ 1000000 ∧ (joinL (byt (l.take i))).length + (l[i].size + 1) ≤ 1000000 := by
          have := congrArg List.length ht.out
          rw [List.length_append, List.length_append, ← Lib.size_eq, List.length_singleton] at this
          omega
        have hnx : Hid (joinL (byt (l.take i)) ++ (l[i] ++ ({ data := #[10] } : ByteArray)).data.toList = joinL (byt (l.take (i + 1)))) := by
          unfold Hid
          rw [ht.out, data_append', List.append_assoc]
        have hxs : (l[i] ++ ({ data := #[10] } : ByteArray)).size = l[i].size + 1 := by rw [ByteArray.size_append]; rfl
        have hstep : Hid (¬ 10 ∈ l[i].data.toList → ∀ j (hj : j < l.length), j < i + 1 → ¬ 10 ∈ l[j].data.toList) := fun hh j hj hji => by
          by_cases hje : j = i
          · subst hje; exact hh
          · exact hall.out j hj (by omega)
        clear hl1 hl3 ht
        generalize l[i] = x at *
        generalize joinL (byt (l.take i)) = F at *
        have hx2 : x.size + 1 ≤ 9223372036854775807 := by omega
        have hcon := lcontains_any x wr hsz.1 hgr
        by_cases hc : 10 ∈ x.data.toList
        · rw [decide_eq_true hc] at hcon
          have hr : Hid (joinR (byt l) = ([], 1)) := by
            unfold Hid joinR
            rw [if_neg (by rw [hbl.out]; exact hl), if_pos ⟨x.data.toList, List.mem_map.2 ⟨x, hmem.out, rfl⟩, hc⟩]
          clear hc
          replace hcon := hide hcon
          replace hxs := hide hxs
          go_wp2_with (go_at_call 69; refine hcon.out.mono ?_; rintro e w' ⟨rfl, rfl⟩)
          go_ret2
          exact ⟨by rw [hr.out]; rfl, hb⟩
        · rw [decide_eq_false hc] at hcon
          have hstep2 := hide (hstep.out hc)
          have hwri := write_any w.heap.size F (x ++ ({ data := #[10] } : ByteArray)) wr hB (by rw [hxs]; exact hsz.2) hb.size
          clear hc
          replace hcon := hide hcon
          replace hxs := hide hxs
          rw [hnx.out] at hwri
          replace hwri := hide hwri
          go_wp2_with (first | (go_at_call 69; refine hcon.out.mono ?_; rintro e w' ⟨rfl, rfl⟩) | (go_at_call 70; refine hwri.out.mono ?_; rintro e w1 ⟨r, rfl, hB1, hb1⟩))
          go_roundw
          case rel => exact ⟨i + 1, by omega, by go_num, hB1, hb.trans (hb1.mono (Nat.le_refl _)), hstep2⟩
          case measure => simp [intOf]; omega
      · have : i = l.length := by omega
        subst this
        rw [List.take_length] at hB
        have hr : Hid (joinR (byt l) = (joinL (byt l), 0)) := by
          unfold Hid joinR
          rw [if_neg (by rw [hbl.out]; exact hl), if_neg]
          · rfl
          · rintro ⟨w, hw, h10⟩
            obtain ⟨s, hs, rfl⟩ := List.mem_map.1 hw
            obtain ⟨j, hj, rfl⟩ := List.getElem_of_mem hs
            exact hall.out j hj hj h10
        have hst := hide (Tryz.Builder_String_any w.heap.size w.heap.size (joinL (byt l)) wr hB hb.size)
        go_wp2_with (go_at_call 71; refine hst.out.mono ?_; rintro e w1 ⟨rfl, hb1⟩)
        go_ret2
        exact ⟨by rw [hr.out]; rfl, hb.trans (hb1.mono (Nat.le_refl _))⟩
end Go.Proofs.YtphcebgpllecjaaGreatDoor

namespace Go.Proofs.YtphcebgpllecjaaGreatDoor
open Go.RowKit Go.Inq
set_option maxHeartbeats 2000000
attribute [local go_sem ↓] Go.wp_at_zero Go.wp_at_succ

/-- The rows, filled as far as this, of n. -/
def filled (A : List ByteArray) (n : Nat) : Array Value := ((A ++ List.replicate (n - A.length) ByteArray.empty).map Value.string).toArray
theorem filled_set {A : List ByteArray} {n : Nat} (h : A.length < n) (t : ByteArray) : (filled A n).setIfInBounds A.length (.string t) = filled (A ++ [t]) n := by
  unfold filled
  have e : n - A.length = (n - (A ++ [t]).length) + 1 := by rw [List.length_append]; simp; omega
  rw [e, List.replicate_succ]
  simp
theorem filled_at {A : List ByteArray} {n : Nat} (h : A.length < n) : (filled A n)[A.length]? = some (.string ByteArray.empty) := by
  unfold filled
  have e : n - A.length = (n - A.length - 1) + 1 := by omega
  rw [e, List.replicate_succ]
  simp
theorem filled_all {A : List ByteArray} {n : Nat} (h : A.length = n) : filled A n = (A.map Value.string).toArray := by
  unfold filled
  rw [show n - A.length = 0 by omega]
  simp
theorem filled_none (n : Nat) : filled [] n = madeCells #[.string ByteArray.empty] n := by
  apply Array.ext
  · unfold filled; simp [size_madeCells]
  · intro i h1 h2
    unfold filled madeCells
    simp [Nat.mod_one]
theorem infoS3 : (Tryz.prog.info? 9).map (fun i => (i.zero, i.size, i.bytes)) = some (some (.string ByteArray.empty), 1, 16) := by kernel_rfl

set_option maxRecDepth 100000 in
theorem dshow_any (A : Option Addr) (c : Nat) (l : List Ev) (w : World) (h : EvS w (Old w) (.slice A l.length c) l) (hn : l.length ≤ maxLen) (henv : Env w) :
    Calls Tryz.prog 19 #[.slice A l.length c] w fun e w' => e = .returned (.tuple #[.string (mk (showD l).1), .int .i64 (showD l).2]) ∧ Below w.heap.size w w' := by
  have hn2 : l.length ≤ 9223372036854775807 := hn
  clear hn
  by_cases hl : 400 < l.length
  · have hl2 : (400 : Int) < (l.length : Int) := by omega
    have hr := hide (showD_many hl)
    go_enter Tryz.func19, Tryz.ntmps19
    go_wp2
    go_ret2
    exact ⟨by rw [hr.out]; rfl, Below.refl _ _⟩
  · have hl2 : ¬ (400 : Int) < (l.length : Int) := by omega
    have hgd := hide (fun (hg : ∀ e ∈ l, e.right = true) => showD_good hl hg)
    have hbd := hide (fun (hg : ∃ e ∈ l, e.right = false) => showD_bad hl hg)
    have hjn := hide (joinR_lns hl)
    have hmk : ∀ W : World, (Instr.makeSlice 68 (.int .i64 (l.length : Int)) (.int .i64 (l.length : Int))).run Tryz.prog W = .ok (.slice (some ⟨W.heap.size, 0, none⟩) l.length l.length) (W.alloc (.cells (madeCells #[.string ByteArray.empty] l.length) 9)) :=
      fun W => run_make_row' (P := Tryz.prog) 68 9 (.string ByteArray.empty) 16 Tryz.underlying68 infoS3 rfl .i64 .i64 l.length (by omega) (by omega) W
    have kR : Blk (w.alloc (.cells (madeCells #[.string ByteArray.empty] l.length) 9)) w.heap.size 9 (filled [] l.length) := by rw [filled_none]; exact Blk.new _ _ _
    have hB : Below w.heap.size w (w.alloc (.cells (madeCells #[.string ByteArray.empty] l.length) 9)) := (Below.refl _ _).alloc (Nat.le_refl _) _
    go_enter Tryz.func19, Tryz.ntmps19
    go_wp2_with fail
    generalize w.alloc (.cells (madeCells #[.string ByteArray.empty] l.length) 9) = W0 at *
    clear hmk
    go_loopw [5, 6, 7, 8, 17] (fun _ _ _ _ s17 wr => ∃ i : Nat, i ≤ l.length ∧ s17 = .int .i64 i ∧ Blk wr w.heap.size 9 (filled ((lns (l.take i)).map mk) l.length) ∧ Hid (∀ j (hj : j < l.length), j < i → l[j].right = true) ∧ Below w.heap.size w wr) (fun _ _ _ _ s17 _ => l.length - (intOf s17).toNat)
    case atStart => exact ⟨0, Nat.zero_le _, by go_num, kR, fun j _ h => absurd h (by omega), hB⟩
    case round =>
      obtain ⟨i, hi, rfl, kW, hok, hb⟩ := hrel
      clear kR hB
      by_cases hlt : i < l.length
      · have hw := EvS.below h hb
        obtain ⟨b, off, rfl, hbK, c0, c1, c2, c3⟩ := EvS.at_ hw hlt
        have hi1 : (0 : Int) ≤ (i : Int) := Int.natCast_nonneg _
        have hi2 : (i : Int) < (l.length : Int) := by omega
        have hmem := hide (List.getElem_mem hlt)
        have htk : lns (l.take (i + 1)) = lns (l.take i) ++ [(showR l[i]).1] := by
          unfold lns
          rw [List.take_succ_eq_append_getElem hlt, List.map_append]
          rfl
        have hAl : ((lns (l.take i)).map mk).length = i := by rw [List.length_map, lns_len, List.length_take]; omega
        have hat := filled_at (A := (lns (l.take i)).map mk) (n := l.length) (by omega)
        have hst := filled_set (A := (lns (l.take i)).map mk) (n := l.length) (by omega) (mk (showR l[i]).1)
        have hA2 : (lns (l.take i)).map mk ++ [mk (showR l[i]).1] = (lns (l.take (i + 1))).map mk := by rw [htk, List.map_append]; rfl
        rw [hA2, hAl] at hst
        rw [hAl] at hat
        clear hA2 htk hAl
        replace hst := hide hst
        have hok2 : l[i].right = true → ∀ j (hj : j < l.length), j < i + 1 → l[j].right = true := fun g j hj hji => by
          by_cases hje : j = i
          · subst hje; exact g
          · exact hok.out j hj (by omega)
        have hsok := fun (g : l[i].right = true) => showR_err g
        have hsbad := fun (g : l[i].right = false) => showR_bad g
        generalize l[i] = x at *
        have hA : Below w.heap.size w (wr.alloc (.cells #[.int .i64 x.kind, .int .i64 x.sess, .int .i64 x.key, .int .i64 x.val] 56)) := hb.alloc hb.size _
        have hsw := eshow_any x _ (henv.below hA)
        have kV := kW.alloc (.cells #[.int .i64 x.kind, .int .i64 x.sess, .int .i64 x.key, .int .i64 x.val] 56)
        generalize filled ((lns (l.take i)).map mk) l.length = cs at *
        clear hw hok kW
        go_wp2_with fail
        generalize wr.alloc (.cells #[.int .i64 x.kind, .int .i64 x.sess, .int .i64 x.key, .int .i64 x.val] 56) = W1 at *
        refine hsw.mono ?_
        rintro e w2 ⟨rfl, hb2⟩
        have k2 := kV.below hb2 kV.lt
        have B2 := hA.trans (hb2.mono hA.size)
        have d0 := k2.cell i
        rw [hat] at d0
        have f0 := k2.frozen i
        clear hb2 kV hA hsw c0 c1 c2 c3
        cases hright : x.right with
        | true =>
          have hok3 := hide (hok2 hright)
          rw [hsok hright]
          clear hsok hsbad hok2 hright hbd
          generalize (showR x).1 = t at *
          go_wp2
          go_roundw
          case rel => exact ⟨i + 1, by omega, by go_num, by have := k2.set_ i (.string (mk t)); rw [hst.out] at this; exact this, hok3, B2.setCell (Nat.le_refl _) _⟩
          case measure => simp [intOf]; omega
        | false =>
          have hr := hide (hbd.out ⟨x, hmem.out, hright⟩)
          rw [hsbad hright]
          clear hsok hsbad hok2 hright hbd
          go_wp2
          go_ret2
          exact ⟨by rw [hr.out]; rfl, B2⟩
      · have : i = l.length := by omega
        subst this
        rw [List.take_length, filled_all (by rw [List.length_map, lns_len])] at kW
        have hr := hide (hgd.out fun e he => by
          obtain ⟨j, hj, rfl⟩ := List.getElem_of_mem he
          exact hok.out j hj hj)
        have hS : StrS wr (Old wr) (.slice (some ⟨w.heap.size, 0, none⟩) ((lns l).map mk).length ((lns l).map mk).length) ((lns l).map mk) := StrS.of_blk kW (by have := kW.lt; exact this)
        have hlm : ((lns l).map mk).length = l.length := by rw [List.length_map, lns_len]
        have hbyt : byt ((lns l).map mk) = lns l := by
          unfold byt
          rw [List.map_map]
          exact (List.map_congr_left (fun x _ => mk_bytes x)).trans (List.map_id _)
        have hjoin : joinL (lns l) = textD l := by
          unfold joinL lns textD
          rw [List.map_map]
          rfl
        have htl := textD_len l
        have hj := ljoin_any _ _ _ wr hS (by omega) (by rw [hbyt, hjoin]; omega) (henv.below hb).glob
        rw [hbyt, hjn.out, hlm] at hj
        clear kW hS hbyt hjoin htl hlm hgd hbd hok
        go_wp2_with fail
        refine hj.mono ?_
        rintro e w3 ⟨rfl, hb3⟩
        go_wp2
        go_ret2
        exact ⟨by rw [hr.out]; rfl, hb.trans (hb3.mono hb.size)⟩
end Go.Proofs.YtphcebgpllecjaaGreatDoor
