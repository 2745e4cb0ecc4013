/-
  Plain words of layer 16: the least that may come next, sought from the end.
-/
import Derived.Laws.MakeOwn
import Derived.Test.YtjomijnbnbideaaGreatDoorT04
import Derived.Test.YtjomijnbnbideaaGreatDoorT09
import Derived.Test.YtjomijnbnbideaaGreatDoorT24
import Derived.Test.YtjomijnbnbideaaGreatDoorT05
import Derived.Test.YtjomijnbnbideaaGreatDoorT02
set_option linter.unusedVariables false
set_option linter.unusedSimpArgs false
namespace Go.Inq

/-- May a node come next? -/
def freeT (n : Nat) (E : Edges) (l : List Nat) (v : Nat) : Bool := !l.contains v && (List.range n).all fun x => !E x v || l.contains x
theorem nextT_eq (n : Nat) (E : Edges) (l : List Nat) : nextT n E l = (List.range n).find? (freeT n E l) := rfl
/-- The least of the last d nodes that p says yes of. -/
def lowD (p : Nat → Bool) (n : Nat) : Nat → Int
  | 0 => -1
  | d + 1 => if p (n - (d + 1)) then ((n - (d + 1) : Nat) : Int) else lowD p n d
theorem lowD_drop (p : Nat → Bool) (n : Nat) : ∀ d, d ≤ n → lowD p n d = match ((List.range n).drop (n - d)).find? p with | some v => (v : Int) | none => -1
  | 0, _ => by rw [Nat.sub_zero, List.drop_of_length_le (by simp)]; rfl
  | d + 1, h => by
    have hd : (List.range n).drop (n - (d + 1)) = (n - (d + 1)) :: (List.range n).drop (n - d) := by
      rw [List.drop_eq_getElem_cons (by simp; omega)]
      simp only [List.getElem_range]
      rw [show n - (d + 1) + 1 = n - d by omega]
    rw [hd, List.find?_cons]
    unfold lowD
    rw [lowD_drop p n d (by omega)]
    cases p (n - (d + 1)) <;> simp
theorem lowD_all (n : Nat) (E : Edges) (l : List Nat) : lowD (freeT n E l) n n = match nextT n E l with | some v => (v : Int) | none => -1 := by
  rw [lowD_drop _ _ n (Nat.le_refl _), Nat.sub_self, List.drop_zero]; rfl
theorem lowD_some {n : Nat} {E : Edges} {l : List Nat} {v : Nat} (h : nextT n E l = some v) : lowD (freeT n E l) n n = v := by rw [lowD_all, h]
theorem lowD_none {n : Nat} {E : Edges} {l : List Nat} (h : nextT n E l = none) : lowD (freeT n E l) n n = -1 := by rw [lowD_all, h]
theorem nextT_lt {n : Nat} {E : Edges} {l : List Nat} {v : Nat} (h : nextT n E l = some v) : v < n := by
  have := List.mem_of_find?_eq_some h
  simpa using this
/-- The set of what stands there. -/
def seenB (n : Nat) (l : List Nat) : Nat := setB (fun v => l.contains v) n
theorem seenB_has {n : Nat} {l : List Nat} {v : Nat} (h : v < n) : hasB (seenB n l) (v : Int) = l.contains v := by
  unfold seenB
  rw [hasB_nat, testBit_setB]; simp [h]
theorem seenB_sub {n : Nat} {E : Edges} {l : List Nat} {v : Nat} (hn : n ≤ 64) : subB (setB (turnE E v) n) (seenB n l) = (List.range n).all fun x => !E x v || l.contains x := by
  have h1 : setB (turnE E v) n < 18446744073709551616 := Nat.lt_of_lt_of_le (setB_lt _ _) (pow_le_64 hn)
  have h2 : seenB n l < 18446744073709551616 := Nat.lt_of_lt_of_le (setB_lt _ _) (pow_le_64 hn)
  rw [Bool.eq_iff_iff, subB_iff h1 h2, List.all_eq_true]
  unfold seenB turnE
  constructor
  · intro h x hx
    have hxn : x < n := by simpa using hx
    have := h x
    rw [testBit_setB, testBit_setB] at this
    simp only [hxn, decide_true, Bool.true_and] at this
    cases hE : E x v
    · simp
    · simpa using this hE
  · intro h x hx
    rw [testBit_setB] at hx ⊢
    rw [Bool.and_eq_true] at hx ⊢
    have hxn : x < n := by simpa using hx.1
    have := h x (by simpa using hxn)
    rw [hx.2] at this
    exact ⟨hx.1, by simpa using this⟩
theorem seenB_with {n : Nat} {l : List Nat} {v : Nat} (h : v < n) (hn : n ≤ 64) : withB (seenB n l) (v : Int) = seenB n (l ++ [v]) := by
  unfold seenB
  rw [setB_with h hn]
  refine setB_congr fun i hi => ?_
  rw [Bool.eq_iff_iff]
  simp
theorem seenB_nil (n : Nat) : seenB n [] = 0 := by
  unfold seenB
  refine Nat.eq_of_testBit_eq fun i => ?_
  rw [testBit_setB]; simp
theorem seenB_lt {n : Nat} {l : List Nat} (hn : n ≤ 64) : seenB n l < 18446744073709551616 := Nat.lt_of_lt_of_le (setB_lt _ _) (pow_le_64 hn)
theorem orderTo_none {n : Nat} {E : Edges} {k : Nat} (h : orderTo n E k = none) : ∀ m, k ≤ m → orderTo n E m = none
  | 0, hm => by have e : k = 0 := Nat.le_zero.1 hm; rw [e] at h; exact h
  | m + 1, hm => by
    by_cases e : k = m + 1
    · subst e; exact h
    · unfold orderTo
      rw [orderTo_none h m (by omega)]
theorem orderTo_some {n : Nat} {E : Edges} {k v : Nat} {l : List Nat} (h : orderTo n E k = some l) (hv : nextT n E l = some v) : orderTo n E (k + 1) = some (l ++ [v]) := by
  unfold orderTo
  rw [h]
  simp only [hv]
theorem orderT_fail {n : Nat} {E : Edges} {k : Nat} {l : List Nat} (hk : k < n) (h : orderTo n E k = some l) (hv : nextT n E l = none) : orderT n E = none := by
  refine orderTo_none (k := k + 1) ?_ n (by omega)
  unfold orderTo
  rw [h]
  simp only [hv]
end Go.Inq

namespace Go.Proofs.YtjomijnbnbideaaGreatDoor
open Go.RowKit Go.Inq
set_option maxHeartbeats 4000000
attribute [local go_sem ↓] Go.wp_at_zero Go.wp_at_succ

/-- What topo.Order tells. -/
def OrdOut (w : World) (o : Option (List Nat)) (e : Ending) (w' : World) : Prop :=
  (match o with
    | some l => ∃ v, e = .returned (.tuple #[v, .bool true]) ∧ OwnI w' w.heap.size v (intsN l)
    | none => e = .returned (.tuple #[.slice none 0 0, .bool false])) ∧ Below w.heap.size w w'
theorem OrdOut.yes {w w' : World} {l : List Nat} {v : Value} (h : OwnI w' w.heap.size v (intsN l)) (hb : Below w.heap.size w w') : OrdOut w (some l) (.returned (.tuple #[v, .bool true])) w' := ⟨⟨v, rfl, h⟩, hb⟩
theorem OrdOut.no {w w' : World} (hb : Below w.heap.size w w') : OrdOut w none (.returned (.tuple #[.slice none 0 0, .bool false])) w' := ⟨rfl, hb⟩
set_option maxRecDepth 100000 in
theorem order16_any (n : Nat) (A : Option Addr) (c : Nat) (E : Edges) (K : Nat → Prop) (w : World) (h : GrS w K n A c E) (hK : ∀ b, K b → b < w.heap.size) (hT : TabB w) :
    Calls Tryz.prog 61 #[.agg #[.int .i64 n, .slice A n c]] w (OrdOut w (orderT n E)) := by
  obtain ⟨ii, hii, hi1, hi2, hi3⟩ := info_parts infoI10
  obtain ⟨W0, hW0⟩ : ∃ W0, w.alloc (.cells #[.int .i64 n, .slice A n c] 56) = W0 := ⟨_, rfl⟩
  have hB := below_allocEq (Below.refl w.heap.size w) hW0 (Nat.le_refl _)
  have k0 := Blk.newEq hW0
  have hs0 := size_allocEq hW0
  have hg := hide (h.keep (Agree.below hB hK) (fun b hb => hb))
  have hKW : Hid (∀ b, K b → b < W0.heap.size) := hide fun b hb => by have := hK b hb; omega
  have hn := h.n64
  replace hK := hide hK
  have hT0 := hT.below hB
  clear h
  have c0 := k0.cell 0
  have c1 := k0.cell 1
  simp only [List.getElem?_toArray, List.getElem?_cons_zero, List.getElem?_cons_succ] at c0 c1
  replace hs0 := hide hs0
  go_enter Tryz.func61, Tryz.ntmps61
  go_wp2_with fail
  clear hW0 c0 c1
  refine (turn12_any n A c E K _ hg.out hKW.out hT0).mono ?_
  rintro e w1 ⟨g, hgs, rfl, kR, hb1⟩
  have hgl := kR.lt
  replace k0 := k0.below hb1 k0.lt
  have hb2 := hB.trans (hb1.mono hB.size)
  obtain ⟨W3, hW3⟩ : ∃ W3, w1.alloc (.cells #[.int .i64 n, .slice (some ⟨g, 0, none⟩) n n] 56) = W3 := ⟨_, rfl⟩
  have k3 := Blk.newEq hW3
  have hs3 := size_allocEq hW3
  replace k0 := k0.allocEq hW3
  replace kR := kR.allocEq hW3
  have hb5 := below_allocEq hb2 hW3 hb2.size
  have hwg : w.heap.size < g := by have := hs0.out; omega
  have hww : w.heap.size < w1.heap.size := by omega
  clear hb1 hB hKW hs0 hg hT0 hb2
  have hmk : ∀ W : World, (Instr.makeSlice 27 (.int .i64 0) (.int .i64 (n : Int))).run Tryz.prog W = .ok (.slice (some ⟨W.heap.size, 0, none⟩) 0 n) (W.alloc (.cells (madeCells #[.int .i64 0] n) 3)) := fun W => by
    have := run_make (P := Tryz.prog) W 27 3 ii (.int .i64 0) Tryz.underlying27 hii hi1 .i64 .i64 0 (n : Int) (Int.le_refl _) (by omega) (by rw [hi3]; omega) (by omega)
    rw [hi2] at this
    simp only [Int.toNat_zero, Int.toNat_natCast, Nat.mul_one] at this
    exact this
  have hmade := hide (World.ownsRow_made (base := w.heap.size) (e := 3) (size := 1) W3 (madeCells #[.int .i64 0] n) n (by omega) (by simp [maxLen]; omega) (by simp [size_madeCells]))
  obtain ⟨W4, hW4⟩ : ∃ W4, W3.alloc (.cells (madeCells #[.int .i64 0] n) 3) = W4 := ⟨_, rfl⟩
  rw [hW4] at hmade
  have c0 := k0.cell 0
  simp only [List.getElem?_toArray, List.getElem?_cons_zero, List.getElem?_cons_succ] at c0
  replace k0 := k0.allocEq hW4
  replace k3 := k3.allocEq hW4
  replace kR := kR.allocEq hW4
  have hb6 := below_allocEq hb5 hW4 (by omega)
  have c0n := k0.cell 0
  simp only [List.getElem?_toArray, List.getElem?_cons_zero, List.getElem?_cons_succ] at c0n
  have hz := hide (seenB_nil n)
  have h3n : w1.heap.size < W3.heap.size := by omega
  have hgK : g < W3.heap.size := by omega
  have hsz4 : W4.heap.size = W3.heap.size + 1 := size_allocEq hW4
  replace hs3 := hide hs3
  go_wp2_with fail
  clear hmk c0 c0n hb5
  go_loopw [6, 7, 22] (fun s6 s7 s22 wr => ∃ (k : Nat) (l : List Nat), k ≤ n ∧ s22 = .int .i64 k ∧ s7 = .int .u64 (seenB n l : Nat) ∧ Hid (orderTo n E k = some l) ∧ OwnI wr w.heap.size s6 (intsN l) ∧ Below w.heap.size w wr ∧ Blk wr w.heap.size 56 #[.int .i64 n, .slice A n c] ∧ Blk wr w1.heap.size 56 #[.int .i64 n, .slice (some ⟨g, 0, none⟩) n n] ∧ Blk wr g 145 (rowsB n (turnE E)) ∧ Hid (∀ b, s6.ownBlock = some b → W3.heap.size ≤ b) ∧ W4.heap.size ≤ wr.heap.size) (fun _ _ s22 _ => n - (intOf s22).toNat)
  case atStart => exact ⟨0, [], Nat.zero_le _, by go_num, by rw [hz.out]; rfl, hide rfl, hmade.out, hb6, k0, k3, kR, hide (fun b hb => by simp [Value.ownBlock] at hb; omega), Nat.le_refl _⟩
  case round =>
    clear hmade hb6 k0 k3 kR hW4 hW3
    obtain ⟨Wo, rfl⟩ : ∃ Wo, Wo = wr := ⟨_, rfl⟩
    obtain ⟨k, l, hk, rfl, rfl, hO, hown, hb, k0, k3, kR, hfar, hszr⟩ := hrel
    have hi1' : (0 : Int) ≤ (k : Int) := Int.natCast_nonneg _
    by_cases hlt : k < n
    · have hi2' : (k : Int) < (n : Int) := by omega
      have c0 := k0.cell 0
      have d1 := k3.cell 1
      simp only [List.getElem?_toArray, List.getElem?_cons_zero, List.getElem?_cons_succ] at c0 d1
      have hsb := hide (seenB_lt (l := l) hn)
      have hn1 : (1 : Int) ≤ (n : Int) := by omega
      go_wp2_with fail
      go_loop [8, 9] (fun s8 s9 => ∃ d : Nat, d ≤ n ∧ s9 = .int .i64 ((n : Int) - 1 - d) ∧ s8 = .int .i64 (lowD (freeT n E l) n d)) (fun _ s9 => ((intOf s9) + 1).toNat)
      case atStart => exact ⟨0, Nat.zero_le _, by simp, rfl⟩
      case round =>
        obtain ⟨d, hd, rfl, rfl⟩ := hrel
        by_cases hdn : d < n
        · obtain ⟨v, hv⟩ : ∃ v, v = n - (d + 1) := ⟨_, rfl⟩
          have hvi : ((n : Int) - 1 - d) = (v : Int) := by omega
          rw [hvi]
          have hvn : v < n := by omega
          have hv0 : (0 : Int) ≤ (v : Int) := Int.natCast_nonneg _
          have hv1 : (v : Int) < (n : Int) := by omega
          have r0 := kR.cell v
          rw [rowsB_at hvn] at r0
          have h64 := hide (setB_64 (p := turnE E v) hn)
          have hhas := hide (seenB_has (l := l) hvn)
          have hsub := hide (seenB_sub (E := E) (l := l) (v := v) hn)
          have hlow : Hid (lowD (freeT n E l) n (d + 1) = if freeT n E l v then (v : Int) else lowD (freeT n E l) n d) := hide (by show (if freeT n E l (n - (d + 1)) then _ else _) = _; rw [← hv])
          have hfr : Hid (freeT n E l v = (!l.contains v && (List.range n).all fun x => !E x v || l.contains x)) := hide rfl
          have hgeb : decide ((v : Int) ≥ 0) = true := by simp
          generalize lowD (freeT n E l) n d = low at *
          generalize hl' : lowD (freeT n E l) n (d + 1) = low' at *
          replace hl' := hide hl'
          generalize seenB n l = S at *
          generalize setB (turnE E v) n = R at *
          clear hvi
          have hnext : Hid (((v : Int) - 1) = (n : Int) - 1 - ((d + 1 : Nat) : Int)) := hide (by omega)
          have hms : Hid (((n : Int) - 1 - ((d + 1 : Nat) : Int) + 1).toNat < ((v : Int) + 1).toNat) := hide (by omega)
          clear hv
          go_wp2_with fail
          refine (has10_any S hsb.out v _).mono ?_
          rintro e w5 ⟨rfl, rfl⟩
          rw [hhas.out]
          cases hc1 : l.contains v with
          | true =>
            have hl2 : low' = low := by rw [hlow.out, hfr.out, hc1]; rfl
            subst hl2
            clear hc1
            go_wp2
            go_round
            case rel => exact ⟨d + 1, by omega, by rw [hnext.out], by rw [hl'.out]⟩
            case measure => simp only [intOf]; rw [hnext.out]; exact hms.out
          | false =>
            replace hfr := hfr.out
            rw [hc1] at hfr
            clear hc1
            go_wp2_with fail
            refine (sub10_any R S h64.out hsb.out _).mono ?_
            rintro e w5 ⟨rfl, rfl⟩
            rw [hsub.out]
            cases hc2 : (List.range n).all fun x => !E x v || l.contains x with
            | true =>
              have hl2 : low' = v := by rw [hlow.out, hfr, hc2]; rfl
              subst hl2
              clear hc2 hfr
              go_wp2
              go_round
              case rel => exact ⟨d + 1, by omega, by rw [hnext.out], by rw [hl'.out]⟩
              case measure => simp only [intOf]; rw [hnext.out]; exact hms.out
            | false =>
              have hl2 : low' = low := by rw [hlow.out, hfr, hc2]; rfl
              subst hl2
              clear hc2 hfr
              go_wp2
              go_round
              case rel => exact ⟨d + 1, by omega, by rw [hnext.out], by rw [hl'.out]⟩
              case measure => simp only [intOf]; rw [hnext.out]; exact hms.out
        · obtain rfl : d = n := by omega
          have hvi : ((d : Int) - 1 - (d : Int)) = -1 := by omega
          rw [hvi]
          clear hvi
          have hszb := hb.size
          cases hnt : nextT d E l with
          | none =>
            have hf := hide (orderT_fail hlt hO.out hnt)
            rw [lowD_none hnt]
            clear hnt
            go_wp2
            exact bodyPost_ret (v := .tuple #[.slice none 0 0, .bool false]) (by simp [results, Tryz.results61, go_sem]) rfl (by rw [hf.out]; exact OrdOut.no hb)
          | some v =>
            have hO2 := hide (orderTo_some hO.out hnt)
            have hvn := nextT_lt hnt
            rw [lowD_some hnt]
            have hwith := hide (seenB_with (l := l) hvn hn)
            have hll := orderTo_len hO.out
            have hlb : l.length + 1 ≤ 64 := by omega
            have hv0 : (0 : Int) ≤ (v : Int) := Int.natCast_nonneg _
            obtain ⟨Av, cv, rfl⟩ := hown.form
            replace hown := hide hown
            have hsn := hide (intsN_snoc l v)
            replace hll := hide hll
            have hlen := hide (intsN_len l)
            have hol := hide (fun b hb => (hown.out.lt b hb).2)
            clear hnt
            go_wp2_with (first | (go_at_call 117; refine (with10_any _ hsb.out v _).mono ?_; rintro e w5 ⟨rfl, rfl⟩) | (at_builtin; refine wpList_push (enc := Go.Inq.encI) rfl (.tmp 47) (.tmp 49) 27 rfl w.heap.size 3 ii _ 1 8 Tryz.underlying27 hii hi1 hi2 hi3 rfl (by decide) (.slice Av (intsN l).length cv) (intsN l) rfl hown.out (fun _ => rfl) (v : Int) _ rfl rfl encI_one (by rw [hlen.out]; simp [maxLen]; omega) (by rw [hlen.out]; omega) hszb w w.heap.size (Nat.le_refl _) hb ?_; intro v1 w6 hown1 hg1 hb1 hat1))
            have hk6 : ∀ (t : TypeId) (cs : Array Value) (B : Nat), B < W3.heap.size → Blk Wo B t cs → Blk w6 B t cs := fun t cs B hB hk => (hk.alloc _).grown hg1 (fun e => by have := hfar.out B e.symm; omega)
            have hsz6 := hg1.size
            simp only [World.size_alloc] at hsz6
            go_roundw
            case rel => exact ⟨k + 1, l ++ [v], by omega, by go_num, by rw [hwith.out], hO2, by unfold OwnI; rw [hsn.out]; exact hown1, hb1, hk6 _ _ _ (by omega) k0, hk6 _ _ _ h3n k3, hk6 _ _ _ hgK kR, hide fun b hb => by
              rcases hat1 with e | e
              · rw [e] at hb; exact hfar.out b hb
              · rw [e] at hb; injection hb with hb; omega, by omega⟩
            case measure => simp [intOf]; omega
    · obtain rfl : k = n := by omega
      have hO2 : Hid (orderT k E = some l) := hO
      go_wp2
      exact bodyPost_ret (v := .tuple #[_, .bool true]) (by simp [results, Tryz.results61, go_sem]; rfl) rfl (by rw [hO2.out]; exact OrdOut.yes hown hb)
end Go.Proofs.YtjomijnbnbideaaGreatDoor

namespace Go.Proofs.YtjomijnbnbideaaGreatDoor
open Go.RowKit Go.Inq Go.Shelf
set_option maxHeartbeats 8000000
attribute [local go_sem] Oper.semAt_some
attribute [local go_sem ↓] Go.wp_at_zero Go.wp_at_succ

set_option maxRecDepth 100000 in
theorem step28_yes (A : Option Addr) (c : Nat) (H : List Txn) (level : Int) (w : World) (h : TxnS w (Old w) (.slice A H.length c) H) (hn : SmallH H) (hr : rightC H [] = true) (hlev : level = 0 ∨ level = 1) (hne : findL H.length (fullE H level []) = []) (hp : pairsL H = []) (O : List Nat) (hO : orderT H.length (fullE H level []) = some O) (hTB : TabB w) :
    Calls Tryz.prog 24 #[.agg #[.slice A H.length c], .int .i64 level] w (ScrOut w (scrH H level)) := by
  refine (callsIn_wide (n := 3)).1 ?_
  have hro : Fence.wide.round = none := rfl
  have hsc : scrH H level = ⟨1, O, none, []⟩ := by
    unfold scrH
    have hl : (decide (level = 0) || decide (level = 1)) = true := by rcases hlev with e | e <;> simp [e]
    rw [hr, hl, if_pos (show (true && true) = true from rfl), if_pos hne, if_pos hp, hO]
    rfl
  rw [hsc]
  replace hO := hide hO
  replace hne := hide hne
  replace hp := hide hp
  clear hsc
  refine callsIn_of_wp_marks Tryz.func24 rfl trivial ?_ hro
  simp only [Tryz.ntmps24, List.size_toArray, List.length_cons, List.length_nil, Nat.reduceAdd, Nat.reduceSub, Array.replicate_succ, Array.replicate_zero, List.push_toArray, List.append_toArray, List.nil_append, List.cons_append]
  gi_wp2_with fail
  refine ⟨trivial, ?_⟩
  obtain ⟨W0, hW0⟩ : ∃ W0, (((w.alloc (.cells #[.slice A H.length c] 24)).alloc (.cells #[.int .i64 level] 3)).alloc (.cells #[.int .i64 0, .slice none 0 0, .slice none 0 0, .slice none 0 0] 35)) = W0 := ⟨_, rfl⟩
  rw [hW0]
  have hs0 : W0.heap.size = w.heap.size + 3 := by rw [← hW0]; simp
  have hBW : Below w.heap.size w W0 := by rw [← hW0]; exact (((Below.refl _ w).alloc (Nat.le_refl _) _).alloc (by simp) _).alloc (by simp; omega) _
  have k2 : Blk W0 (w.heap.size + 1 + 1) 35 #[.int .i64 0, .slice none 0 0, .slice none 0 0, .slice none 0 0] := by
    rw [← hW0]
    have := Blk.new ((w.alloc (.cells #[.slice A H.length c] 24)).alloc (.cells #[.int .i64 level] 3)) 35 #[.int .i64 0, .slice none 0 0, .slice none 0 0, .slice none 0 0]
    simpa using this
  have k0 : Blk W0 w.heap.size 24 #[.slice A H.length c] := by rw [← hW0]; exact ((Blk.new _ _ _).alloc _).alloc _
  have hTW : TxnS W0 (Old W0) (.slice A H.length c) H := TxnS.keep h (Agree.below hBW fun b h => h) (fun b hb => Nat.lt_of_lt_of_le hb hBW.size)
  refine (callsIn_wide.2 (full18_any A c H level none 0 [] W0 hTW hn (SlR.nil _ _ _ _ _ _) hr hlev (hTB.below hBW))).mono ?_
  rintro e w1 ⟨g, hg, rfl, hbk, hb1⟩
  dsimp only
  have h64 : H.length ≤ 64 := by have := ((rightH_iff H).1 (rightC_hist hr)).1; omega
  have hs1 := hb1.size
  have hbw1 := hBW.trans (hb1.mono hBW.size)
  have kx := k2.below hb1 k2.lt
  have kz := k0.below hb1 k0.lt
  have hgl := hbk.lt
  have hT1 := hTB.below hbw1
  obtain ⟨W1, hW1⟩ : ∃ W1, w1.alloc (.cells #[.int .i64 0, .slice none 0 0] 56) = W1 := ⟨_, rfl⟩
  have hg0 : w.heap.size ≤ g := by omega
  have hne1 : w.heap.size + 1 + 1 ≠ w1.heap.size := by have := k2.lt; omega
  have hne2 : g ≠ w1.heap.size := by omega
  have hne3 : w.heap.size + 1 + 1 ≠ g := by omega
  have ky := kx.allocEq hW1
  have kh := kz.allocEq hW1
  have hne0 : w.heap.size ≠ w1.heap.size := by have := k2.lt; omega
  have kr := hbk.allocEq hW1
  have kg := Blk.newEq hW1
  have hbz := below_allocEq hbw1 hW1 hbw1.size
  have z0 := kg.cell 0
  have z1 := kg.cell 1
  have v0 := kg.frozen 0
  have v1 := kg.frozen 1
  simp only [List.getElem?_toArray, List.getElem?_cons_zero, List.getElem?_cons_succ] at z0 z1
  generalize fullE H level [] = E at *
  clear hW0 hTW hBW hb1 kx hbk k2
  gi_wp2
  refine ⟨trivial, ?_⟩
  have hsz3 : w.heap.size ≤ w1.heap.size := by omega
  obtain ⟨W2, hW2⟩ : ∃ W2, ((W1.setCell ⟨w1.heap.size, 0, none⟩ (.int .i64 (H.length : Nat))).setCell ⟨w1.heap.size, 1, none⟩ (.slice (some ⟨g, 0, none⟩) H.length H.length)) = W2 := ⟨_, rfl⟩
  have m2 : Blk W2 (w.heap.size + 1 + 1) 35 #[.int .i64 0, .slice none 0 0, .slice none 0 0, .slice none 0 0] := by rw [← hW2]; exact (ky.far (p := ⟨w1.heap.size, 0, none⟩) hne1 _).far (p := ⟨w1.heap.size, 1, none⟩) hne1 _
  have mh : Blk W2 w.heap.size 24 #[.slice A H.length c] := by rw [← hW2]; exact (kh.far (p := ⟨w1.heap.size, 0, none⟩) hne0 _).far (p := ⟨w1.heap.size, 1, none⟩) hne0 _
  have mg : Blk W2 w1.heap.size 56 #[.int .i64 (H.length : Nat), .slice (some ⟨g, 0, none⟩) H.length H.length] := by rw [← hW2]; exact (kg.set_ 0 _).set_ 1 _
  have mr : Blk W2 g 145 (rowsB H.length E) := by rw [← hW2]; exact (kr.far (p := ⟨w1.heap.size, 0, none⟩) hne2 _).far (p := ⟨w1.heap.size, 1, none⟩) hne2 _
  have hb2 : Below w.heap.size w W2 := by rw [← hW2]; exact (hbz.setCell (p := ⟨w1.heap.size, 0, none⟩) (by exact hsz3) _).setCell (p := ⟨w1.heap.size, 1, none⟩) (by exact hsz3) _
  rw [hW2]
  have hgr := GrS.of_blk (K := Old W2) mr mr.lt h64
  have hfind := find15_any H.length (some ⟨g, 0, none⟩) H.length E W2 hgr (hTB.below hb2)
  rw [hne.out] at hfind
  refine (callsIn_wide.2 hfind).mono ?_
  rintro e w3 ⟨v, rfl, hown, hb3⟩
  dsimp only
  have hs3 := hb3.size
  have hbw3 := hb2.trans (hb3.mono hb2.size)
  have m3 := m2.below hb3 m2.lt
  have hs2 := hb2.size
  obtain ⟨Av, cv, rfl⟩ := hown.form
  have m3h := mh.below hb3 mh.lt
  have m3g := mg.below hb3 mg.lt
  have m3r := mr.below hb3 mr.lt
  have c0 := m3h.cell 0
  simp only [List.getElem?_toArray, List.getElem?_cons_zero, List.getElem?_cons_succ] at c0
  have hm2l := m2.lt
  clear hW2 hfind z0 z1 v0 v1 hgr ky kr kg m2 mr mh mg kh kz hown
  gi_wp2
  refine ⟨trivial, ?_⟩
  have hT3 : TxnS w3 (Old w3) (.slice A H.length c) H := TxnS.keep h (Agree.below hbw3 fun b h => h) (fun b hb => Nat.lt_of_lt_of_le hb hbw3.size)
  have hpr := pairs9_any A c H w3 hT3 hn (rightC_hist hr)
  rw [hp.out] at hpr
  refine (callsIn_wide.2 hpr).mono ?_
  rintro e w4 ⟨v4, rfl, hown4, hb4⟩
  obtain ⟨A4, c4, rfl⟩ := hown4.form
  dsimp only
  have hs4 := hb4.size
  have hbw4 := hbw3.trans (hb4.mono hbw3.size)
  have m4 := m3.below hb4 m3.lt
  have m4g := m3g.below hb4 m3g.lt
  have m4r := m3r.below hb4 m3r.lt
  have z0 := m4g.cell 0
  have z1 := m4g.cell 1
  simp at z0 z1
  clear hpr hT3 c0 m3h m3g m3r m3 hown4
  gi_wp2
  refine ⟨trivial, ?_⟩
  have hord := order16_any H.length (some ⟨g, 0, none⟩) H.length E (Old w4) w4 (GrS.of_blk m4r m4r.lt h64) (fun b hb => hb) (hTB.below hbw4)
  rw [hO.out] at hord
  refine (callsIn_wide.2 hord).mono ?_
  rintro e w5 ⟨⟨v5, rfl, hown5⟩, hb5⟩
  dsimp only
  have hs5 := hb5.size
  have hbw5 := hbw4.trans (hb5.mono hbw4.size)
  have m5 := m4.below hb5 m4.lt
  have x0 := m5.cell 0
  have x1 := m5.cell 1
  have x2 := m5.cell 2
  have x3 := m5.cell 3
  have y0 := m5.frozen 0
  have y1 := m5.frozen 1
  have y2 := m5.frozen 2
  have y3 := m5.frozen 3
  simp only [List.getElem?_toArray, List.getElem?_cons_zero, List.getElem?_cons_succ] at x0 x1 x2 x3
  obtain ⟨Av5, cv5, rfl⟩ := hown5.form
  replace hown5 := hide hown5
  have hm5 := m5.lt
  clear hord m4g m4r z0 z1 m4
  gi_wp2
  have kF := (((m5.set_ 0 (.int .i64 1)).set_ 1 (.slice Av5 (intsN O).length cv5)).set_ 2 (.slice none 0 0)).set_ 3 (.slice none 0 0)
  have r0 := kF.cell 0
  have r1 := kF.cell 1
  have r2 := kF.cell 2
  have r3 := kF.cell 3
  simp at r0 r1 r2 r3
  have o1 : w5.ownsRow w4.heap.size 3 1 (.slice Av5 (intsN O).length cv5) (intsN O).length ((intsN O).map Go.Inq.encI).flatten := hown5.out
  have hno : ∀ g', (Value.slice Av5 (intsN O).length cv5).ownBlock = some g' → g' = w.heap.size + 1 + 1 → False := fun g' e1 e2 => by have := (o1.lt _ e1).1; omega
  have o2 := (((o1.kept (grown_set (w.heap.size + 1 + 1) 0 (.int .i64 1)) (.inr fun e => hno _ e rfl)).kept (grown_set (w.heap.size + 1 + 1) 1 (.slice Av5 (intsN O).length cv5)) (.inr fun e => hno _ e rfl)).kept (grown_set (w.heap.size + 1 + 1) 2 (.slice none 0 0)) (.inr fun e => hno _ e rfl)).kept (grown_set (w.heap.size + 1 + 1) 3 (.slice none 0 0)) (.inr fun e => hno _ e rfl)
  refine ⟨.agg #[.int .i64 1, .slice Av5 (intsN O).length cv5, .slice none 0 0, .slice none 0 0], ?_, ⟨_, _, _, rfl, own_base o2 hbw4.size, rfl, OwnX.nil _ _, ?_⟩⟩
  · simp [results, Tryz.f24, go_sem, r0, r1, r2, r3]
  · exact (((hbw5.setCell (p := ⟨w.heap.size + 1 + 1, 0, none⟩) (by simp; omega) _).setCell (p := ⟨w.heap.size + 1 + 1, 1, none⟩) (by simp; omega) _).setCell (p := ⟨w.heap.size + 1 + 1, 2, none⟩) (by simp; omega) _).setCell (p := ⟨w.heap.size + 1 + 1, 3, none⟩) (by simp; omega) _
end Go.Proofs.YtjomijnbnbideaaGreatDoor

namespace Go.Proofs.YtjomijnbnbideaaGreatDoor
open Go.RowKit Go.Inq

theorem arr_eta {t : Array Value} {n : Nat} (h : t.size = n) : t = ((List.range n).map fun i => t.getD i undef).toArray := by
  subst h
  refine Array.ext (by simp) fun i h1 h2 => ?_
  simp [Array.getD, h1]
set_option maxRecDepth 100000 in
theorem frame85 (t : Array Value) (h : t.size = 85) : ∃ u : Nat → Value, (∀ i, t.getD i undef = u i) ∧ t = #[u 0, u 1, u 2, u 3, u 4, u 5, u 6, u 7, u 8, u 9, u 10, u 11, u 12, u 13, u 14, u 15, u 16, u 17, u 18, u 19, u 20, u 21, u 22, u 23, u 24, u 25, u 26, u 27, u 28, u 29, u 30, u 31, u 32, u 33, u 34, u 35, u 36, u 37, u 38, u 39, u 40, u 41, u 42, u 43, u 44, u 45, u 46, u 47, u 48, u 49, u 50, u 51, u 52, u 53, u 54, u 55, u 56, u 57, u 58, u 59, u 60, u 61, u 62, u 63, u 64, u 65, u 66, u 67, u 68, u 69, u 70, u 71, u 72, u 73, u 74, u 75, u 76, u 77, u 78, u 79, u 80, u 81, u 82, u 83, u 84] :=
  ⟨fun i => t.getD i undef, fun _ => rfl, (arr_eta h).trans rfl⟩
/-- The outer loop's slots. -/
structure Fr28 (f0 f1 f2 f3 f4 f11 f48 f49 f50 : Value) (t : Array Value) : Prop where
  size : t.size = 85
  s0 : t.getD 0 undef = f0
  s1 : t.getD 1 undef = f1
  s2 : t.getD 2 undef = f2
  s3 : t.getD 3 undef = f3
  s4 : t.getD 4 undef = f4
  s11 : t.getD 11 undef = f11
  s48 : t.getD 48 undef = f48
  s49 : t.getD 49 undef = f49
  s50 : t.getD 50 undef = f50
theorem Fr28.open {f0 f1 f2 f3 f4 f11 f48 f49 f50 : Value} {t : Array Value} (h : Fr28 f0 f1 f2 f3 f4 f11 f48 f49 f50 t) : ∃ u : Nat → Value, t = #[f0, f1, f2, f3, f4, u 5, u 6, u 7, u 8, u 9, u 10, f11, u 12, u 13, u 14, u 15, u 16, u 17, u 18, u 19, u 20, u 21, u 22, u 23, u 24, u 25, u 26, u 27, u 28, u 29, u 30, u 31, u 32, u 33, u 34, u 35, u 36, u 37, u 38, u 39, u 40, u 41, u 42, u 43, u 44, u 45, u 46, u 47, f48, f49, f50, u 51, u 52, u 53, u 54, u 55, u 56, u 57, u 58, u 59, u 60, u 61, u 62, u 63, u 64, u 65, u 66, u 67, u 68, u 69, u 70, u 71, u 72, u 73, u 74, u 75, u 76, u 77, u 78, u 79, u 80, u 81, u 82, u 83, u 84] := by
  obtain ⟨u, hu, ht⟩ := frame85 t h.size
  refine ⟨u, ?_⟩
  rw [← h.s0, ← h.s1, ← h.s2, ← h.s3, ← h.s4, ← h.s11, ← h.s48, ← h.s49, ← h.s50]
  simp only [hu]
  exact ht
/-- The inner loop's slots. -/
structure Fr28b (f0 f1 f2 f3 f4 f11 f13 f48 f49 f50 f62 f63 f64 : Value) (t : Array Value) : Prop where
  size : t.size = 85
  s0 : t.getD 0 undef = f0
  s1 : t.getD 1 undef = f1
  s2 : t.getD 2 undef = f2
  s3 : t.getD 3 undef = f3
  s4 : t.getD 4 undef = f4
  s11 : t.getD 11 undef = f11
  s13 : t.getD 13 undef = f13
  s48 : t.getD 48 undef = f48
  s49 : t.getD 49 undef = f49
  s50 : t.getD 50 undef = f50
  s62 : t.getD 62 undef = f62
  s63 : t.getD 63 undef = f63
  s64 : t.getD 64 undef = f64
theorem Fr28b.open {f0 f1 f2 f3 f4 f11 f13 f48 f49 f50 f62 f63 f64 : Value} {t : Array Value} (h : Fr28b f0 f1 f2 f3 f4 f11 f13 f48 f49 f50 f62 f63 f64 t) : ∃ u : Nat → Value, t = #[f0, f1, f2, f3, f4, u 5, u 6, u 7, u 8, u 9, u 10, f11, u 12, f13, u 14, u 15, u 16, u 17, u 18, u 19, u 20, u 21, u 22, u 23, u 24, u 25, u 26, u 27, u 28, u 29, u 30, u 31, u 32, u 33, u 34, u 35, u 36, u 37, u 38, u 39, u 40, u 41, u 42, u 43, u 44, u 45, u 46, u 47, f48, f49, f50, u 51, u 52, u 53, u 54, u 55, u 56, u 57, u 58, u 59, u 60, u 61, f62, f63, f64, u 65, u 66, u 67, u 68, u 69, u 70, u 71, u 72, u 73, u 74, u 75, u 76, u 77, u 78, u 79, u 80, u 81, u 82, u 83, u 84] := by
  obtain ⟨u, hu, ht⟩ := frame85 t h.size
  refine ⟨u, ?_⟩
  rw [← h.s0, ← h.s1, ← h.s2, ← h.s3, ← h.s4, ← h.s11, ← h.s13, ← h.s48, ← h.s49, ← h.s50, ← h.s62, ← h.s63, ← h.s64]
  simp only [hu]
  exact ht
end Go.Proofs.YtjomijnbnbideaaGreatDoor

namespace Go.Proofs.YtjomijnbnbideaaGreatDoor
open Go.RowKit Go.Inq
set_option maxHeartbeats 1000000

/-- As SlR.of_blk of Src7A, without what that text imports. -/
theorem slr_blk {α : Type} {size : Nat} {R : World → (Nat → Prop) → List Value → α → Prop} {w : World} {K : Nat → Prop} {g : Nat} {t : TypeId} {l : List α} (ys : List (List Value)) (h : Blk w g t ys.flatten.toArray) (hl : ys.length = l.length)
    (hR : ∀ (i : Nat) cs x, ys[i]? = some cs → l[i]? = some x → cs.length = size ∧ R w K cs x) (hK : K g) (hn : l.length ≤ 1000000) : SlR size R w K (.slice (some ⟨g, 0, none⟩) l.length l.length) l := by
  have hlen : ∀ (ys : List (List Value)), (∀ cs ∈ ys, cs.length = size) → ys.flatten.length = ys.length * size := by
    intro ys
    induction ys with
    | nil => intro _; simp
    | cons y r ih =>
      intro hs
      rw [List.flatten_cons, List.length_append, ih fun cs hc => hs cs (List.mem_cons_of_mem _ hc), hs y (by simp), List.length_cons, Nat.add_mul]
      omega
  have h1 := hlen ys fun cs hc => by
    obtain ⟨i, hi⟩ := List.getElem?_of_mem hc
    have hil : i < l.length := by
      rcases Nat.lt_or_ge i ys.length with h | h
      · omega
      · rw [List.getElem?_eq_none h] at hi; cases hi
    exact (hR i cs l[i] hi (List.getElem?_eq_getElem hil)).1
  refine SlR.of_own (base := g) (e := t) (n := l.length) (xs := ys.flatten) (ys := ys) ⟨by rw [h1, hl], .inr ⟨g, l.length, _, rfl, Nat.le_refl _, h, Nat.le_refl _, by unfold maxLen; omega, by simp [h1, hl], List.take_of_length_le (by simp [h1, hl])⟩⟩ rfl rfl hl hR (fun g' hg => ?_)
  have : g = g' := by simpa [Value.ownBlock] using hg
  exact this ▸ hK
end Go.Proofs.YtjomijnbnbideaaGreatDoor
