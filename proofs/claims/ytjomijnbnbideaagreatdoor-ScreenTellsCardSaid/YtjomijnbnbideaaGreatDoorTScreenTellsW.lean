/-
  Walks: ScreenTells.
-/
import Derived.Test.YtjomijnbnbideaaGreatDoorT39
import Derived.Test.YtjomijnbnbideaaGreatDoorT37
import Derived.Test.YtjomijnbnbideaaGreatDoorT27
set_option linter.unusedVariables false
set_option linter.unusedSimpArgs false
namespace Go.Proofs.YtjomijnbnbideaaGreatDoor
open Go.RowKit Go.Inq
set_option maxHeartbeats 8000000
attribute [local go_sem ↓] Go.wp_at_zero Go.wp_at_succ

theorem findL_len {n : Nat} {E : Edges} : (findL n E).length ≤ n + 1 := by
  unfold findL
  cases hf : (List.range n).find? fun v => farE n E v v != 0 with
  | none => simp
  | some v =>
    have h1 := List.find?_some hf
    have hv := List.mem_range.1 (List.mem_of_find?_eq_some hf)
    have h0 : farE n E v v ≠ 0 := by simpa using h1
    have hle : farE n E v v ≤ n := farK_lev hv
    rw [List.length_cons, pathF_len (farE n E v v - 1) v (by omega)]
    omega
theorem scr_olen {H : List Txn} {level : Int} : (scrH H level).order.length ≤ H.length := by
  unfold scrH
  split
  · split
    · split
      · cases h : orderT H.length (fullE H level []) with
        | none => simp
        | some O => exact Nat.le_of_eq (orderTo_len h)
      · simp
    · simp
  · simp
theorem scr_tlen {H : List Txn} {level : Int} {l : List Nat} (h : (scrH H level).tree = some l) : l.length ≤ H.length + 1 := by
  unfold scrH at h
  split at h
  · split at h
    · split at h <;> simp at h
    · simp only [Option.some.injEq] at h
      rw [← h]; exact findL_len
  · simp at h
/-- What screen.Step told, as a value. -/
def ScrT (r : Scr) (v : Value) (w : World) : Prop := ∃ Ao co At ct Af cf, v = .agg #[.int .i64 r.said, .slice Ao r.order.length co, .slice At (treeN r.tree) ct, .slice Af r.facts.length cf] ∧ ScrV w 0 v r
def RsP (ws : List (Value → World → Prop)) (j : Nat) (vs : Nat → Value) (W : World) : Prop :=
  match ws[j]? with
  | some p => p (vs j) W
  | none => True
theorem rsp_cg {ws : List (Value → World → Prop)} {dp : Nat → List Nat} : ∀ j (vs vs' : Nat → Value) w, (∀ k, k = j ∨ k ∈ dp j → vs k = vs' k) → RsP ws j vs w → RsP ws j vs' w := by
  intro j vs vs' w hk h
  unfold RsP at h ⊢
  rw [← hk j (.inl rfl)]; exact h
theorem rsp_keep {ws : List (Value → World → Prop)} (hst : ∀ p ∈ ws, ∀ v (W W' : World), p v W → Below W.heap.size W W' → p v W') : ∀ i j (vs : Nat → Value) w w', j ≠ i → j ∉ (fun _ : Nat => ([] : List Nat)) i → RsP ws j vs w → (fun (_ : Nat) (W W' : World) => Below W.heap.size W W') i w w' → RsP ws j vs w' := by
  intro i j vs w w' _ _ h hs
  unfold RsP at h ⊢
  cases hw : ws[j]? with
  | none => trivial
  | some p =>
    rw [hw] at h
    exact hst p (List.mem_of_getElem? hw) _ _ _ h hs
def wsT (A : Option Addr) (c n : Nat) (level : Int) (r : Scr) : List (Value → World → Prop) :=
  [isV (.agg #[.slice A n c]), isV (.int .i64 level), ScrT r, fun v W => ScrS W v r, isV (.agg #[.slice A n c]), isV (.int .i64 level), fun v W => ScrS W v r, isV (.bool true), isV (.bool true)]
def dpT : Nat → List Nat
  | 2 => [0, 1]
  | 3 => [2]
  | 6 => [4, 5]
  | 7 => [3, 6]
  | 8 => [7]
  | _ => []
theorem dpT_end : ∀ i, 9 ≤ i → dpT i = [] := by
  intro i hi
  match i, hi with
  | n + 9, _ => rfl
theorem wsT_st {A : Option Addr} {c n : Nat} {level : Int} {r : Scr} : ∀ p ∈ wsT A c n level r, ∀ v (W W' : World), p v W → Below W.heap.size W W' → p v W' := by
  intro p hp v W W' h hb
  simp only [wsT, List.mem_cons, List.not_mem_nil, or_false] at hp
  rcases hp with rfl | rfl | rfl | rfl | rfl | rfl | rfl | rfl | rfl
  · exact isV_free h
  · exact isV_free h
  · obtain ⟨Ao, co, At, ct, Af, cf, h1, h2⟩ := h
    exact ⟨Ao, co, At, ct, Af, cf, h1, h2.below hb⟩
  · exact ScrS.below h hb
  · exact isV_free h
  · exact isV_free h
  · exact ScrS.below h hb
  · exact isV_free h
  · exact isV_free h
set_option maxRecDepth 100000 in
theorem screenTells_any (A : Option Addr) (c : Nat) (H : List Txn) (level : Int) (w : World) (h : TxnS w (Old w) (.slice A H.length c) H) (hn : H.length ≤ maxLen) (hns : ∀ t ∈ H, t.writes.length ≤ maxLen ∧ t.reads.length ≤ maxLen) (hTB : TabB w) :
    Calls Tryz.prog 4 #[.agg #[.slice A H.length c], .int .i64 level] w fun e w' => e = .returned (.bool true) ∧ Below w.heap.size w w' := by
  have hA : Below w.heap.size w (w.alloc (.cells #[.slice A H.length c] 24)) := (Below.refl _ _).alloc (Nat.le_refl _) _
  have hT0 := h.below hA
  have kh : Blk (w.alloc (.cells #[.slice A H.length c] 24)) w.heap.size 24 #[.slice A H.length c] := Blk.new _ _ _
  replace hn := hide hn
  replace hns := hide hns
  replace h := hide h
  go_enter Tryz.func4, Tryz.ntmps4
  go_wp2_with fail
  generalize w.alloc (.cells #[.slice A H.length c] 24) = W0 at *
  refine (awake28_any W0 (hTB.below hA)).mono ?_
  rintro e w1 ⟨rfl, hb1⟩
  have hb := hA.trans (hb1.mono hA.size)
  have hT1 := hT0.below hb1
  replace kh := kh.below hb1 kh.lt
  have c0 := kh.cell 0
  simp only [List.getElem?_toArray, List.getElem?_cons_zero] at c0
  clear hT0 hA hb1
  go_wp2_with fail
  refine (few8n_any 10 A c H w1 hT1 hn.out hns.out).mono ?_
  rintro e w2 ⟨rfl, hb2⟩
  replace hb := hb.trans (hb2.mono hb.size)
  have hT2 := hide (hT1.below hb2)
  replace kh := kh.below hb2 kh.lt
  clear hT1 hb2 c0 hn hns
  cases hf : fewN 10 H with
  | false =>
    go_wp2
    go_ret
    exact ⟨rfl, hb⟩
  | true =>
    have hsm := hide (fewN_small (by omega) hf)
    have hl10 := fewN_len hf
    clear hf
    have hstp := hide (fun W (hB : Below w2.heap.size w2 W) => step28_any A c H level W (hT2.out.below hB) hsm.out (hTB.below (hb.trans (hB.mono hb.size))))
    have hrst := hide (fun W (hB : Below w2.heap.size w2 W) => rstep28_any A c H level W (hT2.out.below hB) hsm.out)
    have hch := hide (fun W (hB : Below w2.heap.size w2 W) => (kh.below hB kh.lt).cell 0)
    have h1 : (scrH H level).order.length ≤ 1000000 := Nat.le_trans scr_olen (by omega)
    have h2 : ∀ l, (scrH H level).tree = some l → l.length ≤ 1000000 := fun l hl => Nat.le_trans (scr_tlen hl) (by omega)
    have h3 : (scrH H level).facts.length ≤ 1000000 := Nat.le_trans scr_flen (by omega)
    replace h1 := hide h1
    replace h2 := hide h2
    replace h3 := hide h3
    generalize scrH H level = r at *
    go_upto_region 7 with fail
    refine wp_region_rel (RsP (wsT A c H.length level r)) (fun W => Below w2.heap.size w2 W) (fun (_ : Nat) (W W' : World) => Below W.heap.size W W') dpT (by kernel_rfl) (by kernel_rfl) (by kernel_rfl) dpT_end (fun _ => []) (by kernel_rfl) rsp_cg (rsp_keep wsT_st) (Below.refl _ _).drew ?hstep ?hend
    case hstep =>
      intro i o ho vs W hB hd
      match i, ho with
      | 0, ho =>
        simp only [List.getElem?_cons_zero, List.getElem?_cons_succ, Option.some.injEq] at ho
        subst ho
        simp only [acV, List.getElem?_toArray, List.getElem?_cons_zero, List.getElem?_cons_succ, Act.put, List.setIfInBounds_toArray, List.set_cons_zero, List.set_cons_succ]
        have v0 := hch.out W hB
        simp only [List.getElem?_toArray, List.getElem?_cons_zero] at v0
        go_wp2
        exact ⟨rfl, _, rfl, rfl, hB, Below.refl _ _⟩
      | 1, ho =>
        simp only [List.getElem?_cons_zero, List.getElem?_cons_succ, Option.some.injEq] at ho
        subst ho
        simp only [acV, List.getElem?_toArray, List.getElem?_cons_zero, List.getElem?_cons_succ, Act.put, List.setIfInBounds_toArray, List.set_cons_zero, List.set_cons_succ]
        go_wp2
        exact ⟨rfl, _, rfl, rfl, hB, Below.refl _ _⟩
      | 2, ho =>
        have e0 : vs 0 = .agg #[.slice A H.length c] := hd 0 (by simp [dpT])
        have e1 : vs 1 = .int .i64 level := hd 1 (by simp [dpT])
        simp only [List.getElem?_cons_zero, List.getElem?_cons_succ, Option.some.injEq] at ho
        subst ho
        simp only [acV, List.getElem?_toArray, List.getElem?_cons_zero, List.getElem?_cons_succ, Act.put, List.setIfInBounds_toArray, List.set_cons_zero, List.set_cons_succ]
        rw [e0, e1]
        go_wp2_with fail
        refine Calls.mono (hstp.out W hB) ?_
        rintro e W2 hso
        obtain ⟨Ao, no, co, At, nt, ct, Af, nf, cf, rfl, rfl, rfl, rfl, v3, b3⟩ := hso.v
        go_wp2
        exact ⟨rfl, _, rfl, show ScrT r _ _ from ⟨Ao, co, At, ct, Af, cf, rfl, v3⟩, hB.trans (b3.mono hB.size), b3⟩
      | 3, ho =>
        obtain ⟨Ao, co, At, ct, Af, cf, e2, hv⟩ : ScrT r (vs 2) W := hd 2 (by simp [dpT])
        rw [e2] at hv
        obtain ⟨vo, vt, vf, q, q1, q2, q3⟩ := hv
        simp only [Value.agg.injEq, Array.mk.injEq, List.cons.injEq, and_true, true_and] at q
        obtain ⟨rfl, rfl, rfl⟩ := q
        simp only [List.getElem?_cons_zero, List.getElem?_cons_succ, Option.some.injEq] at ho
        subst ho
        simp only [acV, List.getElem?_toArray, List.getElem?_cons_zero, List.getElem?_cons_succ, Act.put, List.setIfInBounds_toArray, List.set_cons_zero, List.set_cons_succ]
        rw [e2]
        go_wp2_with fail
        refine Calls.mono (plain28_any r Ao co At ct Af cf W (OwnI.sl q1 (fun g _ h => h)) q2 q3 h3.out) ?_
        rintro e W2 ⟨v, rfl, hs, b3⟩
        go_wp2
        exact ⟨rfl, _, rfl, show ScrS _ _ r from hs, hB.trans (b3.mono hB.size), b3⟩
      | 4, ho =>
        simp only [List.getElem?_cons_zero, List.getElem?_cons_succ, Option.some.injEq] at ho
        subst ho
        simp only [acV, List.getElem?_toArray, List.getElem?_cons_zero, List.getElem?_cons_succ, Act.put, List.setIfInBounds_toArray, List.set_cons_zero, List.set_cons_succ]
        have v0 := hch.out W hB
        simp only [List.getElem?_toArray, List.getElem?_cons_zero] at v0
        go_wp2
        exact ⟨rfl, _, rfl, rfl, hB, Below.refl _ _⟩
      | 5, ho =>
        simp only [List.getElem?_cons_zero, List.getElem?_cons_succ, Option.some.injEq] at ho
        subst ho
        simp only [acV, List.getElem?_toArray, List.getElem?_cons_zero, List.getElem?_cons_succ, Act.put, List.setIfInBounds_toArray, List.set_cons_zero, List.set_cons_succ]
        go_wp2
        exact ⟨rfl, _, rfl, rfl, hB, Below.refl _ _⟩
      | 6, ho =>
        have e4 : vs 4 = .agg #[.slice A H.length c] := hd 4 (by simp [dpT])
        have e5 : vs 5 = .int .i64 level := hd 5 (by simp [dpT])
        simp only [List.getElem?_cons_zero, List.getElem?_cons_succ, Option.some.injEq] at ho
        subst ho
        simp only [acV, List.getElem?_toArray, List.getElem?_cons_zero, List.getElem?_cons_succ, Act.put, List.setIfInBounds_toArray, List.set_cons_zero, List.set_cons_succ]
        rw [e4, e5]
        go_wp2_with fail
        refine Calls.mono (hrst.out W hB) ?_
        rintro e W2 hso
        obtain ⟨v, rfl, hs, b3⟩ := hso.s
        go_wp2
        exact ⟨rfl, _, rfl, show ScrS _ _ r from hs, hB.trans (b3.mono hB.size), b3⟩
      | 7, ho =>
        have e3 : ScrS W (vs 3) r := hd 3 (by simp [dpT])
        have e6 : ScrS W (vs 6) r := hd 6 (by simp [dpT])
        simp only [List.getElem?_cons_zero, List.getElem?_cons_succ, Option.some.injEq] at ho
        subst ho
        simp only [acV, List.getElem?_toArray, List.getElem?_cons_zero, List.getElem?_cons_succ, Act.put, List.setIfInBounds_toArray, List.set_cons_zero, List.set_cons_succ]
        go_wp2_with fail
        refine Calls.mono (rsame28_eq (vs 3) (vs 6) r W e3 e6 h1.out h2.out h3.out) ?_
        rintro e W2 ⟨rfl, b3⟩
        go_wp2
        exact ⟨rfl, _, rfl, rfl, hB.trans (b3.mono hB.size), b3⟩
      | 8, ho =>
        have e7 : vs 7 = .bool true := hd 7 (by simp [dpT])
        simp only [List.getElem?_cons_zero, List.getElem?_cons_succ, Option.some.injEq] at ho
        subst ho
        simp only [acV, List.getElem?_toArray, List.getElem?_cons_zero, List.getElem?_cons_succ, Act.put, List.setIfInBounds_toArray, List.set_cons_zero, List.set_cons_succ]
        rw [e7]
        go_wp2
        exact ⟨rfl, _, rfl, rfl, hB, Below.refl _ _⟩
      | i + 9, ho => simp at ho
    case hend =>
      rintro vs W1 hB hd
      have e8 : vs 8 = .bool true := hd 8 (by simp) (by simp)
      simp only [acV, List.getElem?_toArray, List.getElem?_cons_zero, List.getElem?_cons_succ, Act.put, List.setIfInBounds_toArray, List.set_cons_zero, List.set_cons_succ, List.length_cons, List.length_nil, Nat.reduceAdd]
      rw [e8]
      have hbf := hb.trans (hB.mono hb.size)
      clear hd
      go_wp2
      go_ret
      exact ⟨rfl, hbf⟩
end Go.Proofs.YtjomijnbnbideaaGreatDoor

namespace Go.Proofs.YtjomijnbnbideaaGreatDoor
open Go.ChangeShapes Go.WideShapes Go.ChangeAt Go.RowKit Go.Inq

set_option maxRecDepth 100000 in
theorem screenTells_lifted (os : Os) (started : os.Started) (H : Type) (enc : TypeId × Value → H) :
    ReturnsInHanded {} Tryz.checked os 4 .any (fun w args => (Rows.screenTellsSpec.pre enc Tryz.prog Tryz.f4 Rows.screenTellsRow.domain false w args ∧ laidMetH Tryz.prog Rows.screenTellsRow.laid w) ∧ sizedMet enc Tryz.prog Tryz.f4 (OpenSpec.ofChange Rows.screenTellsSpec) false w args)
      (Rows.screenTellsSpec.post enc Tryz.prog Tryz.f4 false true false false) := by
  refine returnsInHanded_shaped_and (C := Tryz.checked) (X := fun w _ => laidMetH Tryz.prog Rows.screenTellsRow.laid w) (fun _ _ _ hh h => h.of_heap hh) own started (by kernel_rfl) Tryz.func4
    (ChangeSpec.witness_shaped (enc := enc) (C := Tryz.checked) (os := os) (X := fun w _ => laidMetH Tryz.prog Rows.screenTellsRow.laid w) false (World.laidAll Tryz.prog os Rows.screenTellsRow.laid) #[.agg #[.slice none 0 0], .int .i64 0] 8 (World.laidAll_os _ _ _)
      (World.shaped_of_ZipB (by kernel_rfl) (by kernel_rfl)) (by kernel_rfl) (by kernel_rfl) (by kernel_rfl)
      (by rw [MakeChecks.laidMetH_plain _ _ _ (by kernel_rfl)]; exact laidMet_laidAll _ (by kernel_rfl) (by kernel_rfl))) ?_
  intro W base args ds gs before hval0 hW hL hsh
  have hval : ∀ (j : Nat) t v, Tryz.f4.params[j]? = some t → args[j]? = some v → Value.okWide Tryz.prog W .any base t v := hval0
  have hW' := hW
  obtain ⟨p, q, hA0, hV, rfl, hfz, hnd⟩ := hW
  have hlt : ∀ x ∈ p ++ q, x.block < W.heap.size := fun x hx => hW'.lt x hx
  have hA : DataW.TrodAll enc Tryz.prog W 0 (fun _ => true) true Tryz.f4.params.toList args.toList ds p := hA0
  rw [Tryz.params4] at hA hval
  obtain ⟨v0, v1, d0, d1, p0, p1, rfl, rfl, rfl, h0, h1⟩ := trodAll_two hA
  obtain ⟨rfl, rfl⟩ := trodVars_none hV
  obtain ⟨n0, t0⟩ := h0
  obtain ⟨cs0, rfl, hz0⟩ := okWide_struct Tryz.underlying24 (hval 0 24 v0 rfl rfl)
  obtain ⟨a0, cap0, l0, he0, hl0, hn0, hm0⟩ := open_hist (by kernel_rfl) t0
  obtain rfl : cs0 = #[.slice a0 l0.length cap0] := Array.toList_inj.1 he0
  obtain ⟨x1, rfl⟩ := okWide_int Tryz.underlying3 (hval 1 3 v1 rfl rfl)
  refine (screenTells_any a0 cap0 l0 x1 W hl0 hn0 hm0 (TabB.of hL (MakeChecks.laidMetH_plain _ _ _ (by kernel_rfl)) (.head _))).mono fun e W2 he => ?_
  obtain ⟨he, hb⟩ := he
  subst he
  exact ⟨_, rfl, [d0, d1], [], (p0 ++ p1) ++ [], [], (p0 ++ p1), [], hW', trodAll_mk1 (shut_bool Tryz.underlying4 true), Below.trodAll hb (by kernel_rfl) hA (fun x hx => hlt x (List.mem_append.2 (.inl hx))), rfl, hb.frame _, fun h => by cases h⟩

theorem screenTells_holds : Rows.ScreenTellsSaid :=
  OpenClaim.holds_of_wide 4 Tryz.f4 rfl rfl rfl rfl rfl rfl rfl ⟨rfl, rfl, rfl, rfl, rfl⟩ rfl rfl rfl rfl rfl (by kernel_rfl) Tryz.func4 (by kernel_rfl)
    (of_decide_eq_true (by kernel_rfl)) (by unfold Func.isWrapper; first | (rw [if_pos (by decide +kernel)]; kernel_rfl) | (rw [if_neg (by decide +kernel)]; exact ⟨rfl, rfl⟩))
    (fun os started H enc _ => screenTells_lifted os started H enc)
theorem screenTells_card_holds : Rows.ScreenTellsCardSaid :=
  Claim7.holds_tied_plain_at .later [] [.data] true (true, "b0efe9e99674400e280ea1a23a13eec5d1b686fa42771ae2dadb0efcfea19ec7") false screenTells_holds (fun _ h => by cases h) (by kernel_rfl) (fun _ h => by cases h) screenTells_row_tie rfl ⟨rfl, rfl⟩ (by kernel_rfl) rfl
    (fun f fn hf hfn => by
      obtain rfl : f = 4 := Option.some.inj ((show Tryz.prog.funcNamed Rows.screenTellsRow.func = some 4 by kernel_rfl).symm.trans hf) |>.symm
      obtain rfl : fn = Tryz.f4 := (Option.some.inj (Tryz.func4.symm.trans hfn)).symm
      exact ⟨by kernel_rfl, fun j t ht => by
        rw [Tryz.params4] at ht
        have hm : t ∈ [24, 3] := by simpa using Array.mem_of_getElem? ht
        have hall : ([24, 3].all fun u => !Tryz.prog.wantsStandIn u) = true := by kernel_rfl
        exact (show Tryz.prog.wantsStandIn t = false by simpa using List.all_eq_true.1 hall t hm)⟩)
    (by kernel_rfl)
#print axioms screenTells_card_holds
end Go.Proofs.YtjomijnbnbideaaGreatDoor
