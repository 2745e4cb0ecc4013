/-
  Walks: layer 5: group.Events.
-/
import Derived.Test.YtphcebgpllecjaaGreatDoorC14
import Derived.Test.YtphcebgpllecjaaGreatDoorC06
set_option linter.unusedVariables false
set_option linter.unusedSimpArgs false
namespace Go.Proofs.YtphcebgpllecjaaGreatDoor
open Go.RowKit Go.Inq
set_option maxHeartbeats 4000000
attribute [local go_sem ↓] Go.wp_at_zero Go.wp_at_succ

theorem eventsR_le (l : List Tx) (h : ∀ t ∈ l, t.ops.length ≤ 1000) : (eventsR l).length ≤ l.length * 1002 := by
  induction l with
  | nil => simp [eventsR]
  | cons t r ih =>
    have h1 := h t (by simp)
    have h2 := ih fun u hu => h u (by simp [hu])
    have e : eventsR (t :: r) = txEvents t ++ eventsR r := by simp [eventsR]
    have e2 : (txEvents t).length = t.ops.length + 2 := by simp [txEvents]
    rw [e, List.length_append, e2, List.length_cons]
    omega
theorem eventsR_step {l : List Tx} {i : Nat} (hi : i < l.length) : eventsR (l.take (i + 1)) = eventsR (l.take i) ++ txEvents l[i] := by
  rw [List.take_succ_eq_append_getElem hi, eventsR_snoc]

set_option maxRecDepth 100000 in
theorem events5_any (l : List Tx) (A : Option Addr) (c : Nat) (w : World) (h : TxS w (Old w) (.slice A l.length c) l) (hn : l.length ≤ 1000) (ho : ∀ t ∈ l, t.ops.length ≤ 1000) :
    Calls Tryz.prog 20 #[.slice A l.length c] w fun e w' => ∃ A' c', e = .returned (.slice A' (eventsR l).length c') ∧ EvS w' (fun b => w.heap.size ≤ b ∧ b < w'.heap.size) (.slice A' (eventsR l).length c') (eventsR l) ∧ Below w.heap.size w w' := by
  obtain ⟨ie, hie, hie1, hie2, hie3⟩ := info_parts infoE5
  have hle := hide (fun i => eventsR_le (l.take i) fun t ht => ho t (List.mem_of_mem_take ht))
  have ho2 := hide ho
  clear ho
  go_enter Tryz.func20, Tryz.ntmps20
  go_wp2_with fail
  go_loopw [3, 9] (fun s3 s9 wr => ∃ (i : Nat) (v : Value), i ≤ l.length ∧ s9 = .int .i64 i ∧ v = s3 ∧ wr.ownsRow w.heap.size 56 4 v (eventsR (l.take i)).length ((eventsR (l.take i)).map Ev.enc).flatten ∧ Below w.heap.size w wr) (fun _ s9 _ => l.length - (intOf s9).toNat)
  case atStart => exact ⟨0, _, Nat.zero_le _, by go_num, rfl, World.ownsRow_nil _ _ _ _, Below.refl _ _⟩
  case round =>
    obtain ⟨i, v, hi, rfl, rfl, hown, hb⟩ := hrel
    have hi1 : (0 : Int) ≤ (i : Int) := Int.natCast_nonneg _
    by_cases hlt : i < l.length
    · have hi2 : (i : Int) < (l.length : Int) := by omega
      obtain ⟨b, off, A', c', rfl, hbK, d0, d1, d2, d3, hev⟩ := TxS.at_ (TxS.keep h (Agree.below hb fun b h => h) (fun b h => h)) hlt
      have hes := hide (eventsR_step hlt)
      have hlen := hle.out i
      have hxl := ho2.out _ (List.getElem_mem hlt)
      generalize l[i] = t at *
      obtain ⟨ts, td, tf, xo⟩ := t
      dsimp only at d0 d1 d2 d3 hev hxl
      have htl : (l.take i).length ≤ 1000 := Nat.le_trans (List.length_take_le _ _) (by omega)
      generalize hLd : eventsR (l.take i) = L at *
      cases td with
      | false =>
        have hoff := hide (fun j (hj : v.ownBlock = some j) => hown.lt j hj)
        have hsw := hb.size
        have hownX : (((wr.alloc (.cells #[.int .i64 ts, .bool false, .int .i64 tf, .slice A' xo.length c'] 49)).alloc (.cells #[.int .i64 4, .int .i64 ts, .int .i64 0, .int .i64 0] 56)).alloc (.cells #[.int .i64 0, .int .i64 ts, .int .i64 0, .int .i64 0] 56)).ownsRow w.heap.size 56 4 v L.length (L.map Ev.enc).flatten := ((hown.alloc _).alloc _).alloc _
        have kN := hide (show SlR 4 (Flat Ev.enc) (((wr.alloc (.cells #[.int .i64 ts, .bool false, .int .i64 tf, .slice A' xo.length c'] 49)).alloc (.cells #[.int .i64 4, .int .i64 ts, .int .i64 0, .int .i64 0] 56)).alloc (.cells #[.int .i64 0, .int .i64 ts, .int .i64 0, .int .i64 0] 56)) (fun _ => True) (.slice (some ⟨wr.heap.size + 2, 0, none⟩) 1 1) [(⟨0, ts, 0, 0⟩ : Ev)] by
          have := SlR.one (R := Flat Ev.enc) (size := 4) (K := fun _ => True) (x := (⟨0, ts, 0, 0⟩ : Ev)) (Blk.new ((wr.alloc (.cells #[.int .i64 ts, .bool false, .int .i64 tf, .slice A' xo.length c'] 49)).alloc (.cells #[.int .i64 4, .int .i64 ts, .int .i64 0, .int .i64 0] 56)) 56 #[.int .i64 0, .int .i64 ts, .int .i64 0, .int .i64 0]) rfl rfl trivial
          rwa [show ((wr.alloc (.cells #[.int .i64 ts, .bool false, .int .i64 tf, .slice A' xo.length c'] 49)).alloc (.cells #[.int .i64 4, .int .i64 ts, .int .i64 0, .int .i64 0] 56)).heap.size = wr.heap.size + 2 by simp] at this)
        have kT0 : Blk (((wr.alloc (.cells #[.int .i64 ts, .bool false, .int .i64 tf, .slice A' xo.length c'] 49)).alloc (.cells #[.int .i64 4, .int .i64 ts, .int .i64 0, .int .i64 0] 56)).alloc (.cells #[.int .i64 0, .int .i64 ts, .int .i64 0, .int .i64 0] 56)) wr.heap.size 49 #[.int .i64 ts, .bool false, .int .i64 tf, .slice A' xo.length c'] := ((Blk.new _ _ _).alloc _).alloc _
        have kE0 : Blk (((wr.alloc (.cells #[.int .i64 ts, .bool false, .int .i64 tf, .slice A' xo.length c'] 49)).alloc (.cells #[.int .i64 4, .int .i64 ts, .int .i64 0, .int .i64 0] 56)).alloc (.cells #[.int .i64 0, .int .i64 ts, .int .i64 0, .int .i64 0] 56)) (wr.heap.size + 1) 56 #[.int .i64 4, .int .i64 ts, .int .i64 0, .int .i64 0] := by
          have := Blk.new (wr.alloc (.cells #[.int .i64 ts, .bool false, .int .i64 tf, .slice A' xo.length c'] 49)) 56 #[.int .i64 4, .int .i64 ts, .int .i64 0, .int .i64 0]
          simp only [World.size_alloc] at this
          exact this.alloc _
        have hbX : Below w.heap.size w (((wr.alloc (.cells #[.int .i64 ts, .bool false, .int .i64 tf, .slice A' xo.length c'] 49)).alloc (.cells #[.int .i64 4, .int .i64 ts, .int .i64 0, .int .i64 0] 56)).alloc (.cells #[.int .i64 0, .int .i64 ts, .int .i64 0, .int .i64 0] 56)) := ((hb.alloc hsw _).alloc (by simp; omega) _).alloc (by simp; omega) _
        have hszX : (((wr.alloc (.cells #[.int .i64 ts, .bool false, .int .i64 tf, .slice A' xo.length c'] 49)).alloc (.cells #[.int .i64 4, .int .i64 ts, .int .i64 0, .int .i64 0] 56)).alloc (.cells #[.int .i64 0, .int .i64 ts, .int .i64 0, .int .i64 0] 56)).heap.size = wr.heap.size + 3 := by simp
        replace hszX := hide hszX
        replace kT0 := hide kT0
        replace kE0 := hide kE0
        have hMdef : L ++ txEvents ⟨ts, false, tf, xo⟩ = L ++ [⟨0, ts, 0, 0⟩] ++ xo ++ [⟨4, ts, 0, 0⟩] := by unfold txEvents; simp
        replace hMdef := hide hMdef
        clear hown
        go_wp2_with (at_builtin; refine wpList_append_flat (enc := Ev.enc) rfl (.tmp 19) (.tmp 23) 41 rfl w.heap.size 56 ie _ 4 32 Tryz.underlying41 hie hie1 hie2 hie3 rfl (by decide) v (fun _ => True) L rfl hownX (fun _ => rfl) _ [(⟨0, ts, 0, 0⟩ : Ev)] rfl kN.out encE5 (by simp [maxLen]; omega) (by simp; omega) (by simp; omega) ?_; intro v6 W6 hown6 hgrow6 hat6; obtain ⟨Av, cv, rfl⟩ := own_slice hown6; have hg6 := hgrow6.size)
        have hML : (L ++ [(⟨0, ts, 0, 0⟩ : Ev)]).length = L.length + 1 := by simp
        rw [hML] at hown6 hat6
        have hvM := hide (fun j (hj : (Value.slice Av (L.length + 1) cv).ownBlock = some j) => (by
          refine ⟨(hown6.lt j hj).1, ?_⟩
          rcases hat6 with e | e
          · rw [e] at hj; have := (hoff.out j hj).2; omega
          · rw [e, hszX.out] at hj; injection hj with hj; omega : w.heap.size ≤ j ∧ j ≠ wr.heap.size ∧ j ≠ wr.heap.size + 1))
        have hvX : ∀ g, wr.heap.size ≤ g → some g ≠ v.ownBlock := fun g hg e => by have := (hoff.out g e.symm).2; omega
        have kT := kT0.out.grown hgrow6 (hvX _ (Nat.le_refl _))
        have kE := kE0.out.grown hgrow6 (hvX _ (Nat.le_succ _))
        have hbM := (hbX.grown hgrow6 hbX.size (fun g hg => (hoff.out g hg).1)).drew
        have hevM := EvS.keep hev (Agree.below (w := wr) (w' := W6.drew) (B := w.heap.size) (K := Old w) (((((Below.refl w.heap.size wr).alloc hsw _).alloc (by simp; omega) _).alloc (by simp; omega) _).grown hgrow6 (by simp; omega) (fun g hg => (hoff.out g hg).1)).drew (fun b h => h)) (fun b h => h)
        rw [hszX.out] at hg6
        have hszM : w.heap.size ≤ W6.drew.heap.size := by show _ ≤ W6.heap.size; omega
        replace kT := kT.drew
        replace kE := kE.drew
        have hM1 : (L ++ [(⟨0, ts, 0, 0⟩ : Ev)]).length ≤ 1003000 := by omega
        have hownM : W6.drew.ownsRow w.heap.size 56 4 (.slice Av (L.length + 1) cv) (L ++ [(⟨0, ts, 0, 0⟩ : Ev)]).length ((L ++ [(⟨0, ts, 0, 0⟩ : Ev)]).map Ev.enc).flatten := by
          rw [hML]
          exact hown6.drew
        clear hat6 hown6 hgrow6 kT0 kE0 hbX hownX kN hvX hML
        refine wp_region_alts [0, 1, 2] [3, 4, 5, 6, 7] [[3, 4, 5, 6, 7], [4, 3, 5, 6, 7], [4, 5, 3, 6, 7]] (by kernel_rfl) (by kernel_rfl) (fun _ _ d _ _ h => by cases d <;> exact h) ?_
        simp only [List.filterMap_cons, List.filterMap_nil, List.getElem?_cons_zero, List.getElem?_cons_succ]
        generalize W6.drew = W6d at *
        generalize L ++ [(⟨0, ts, 0, 0⟩ : Ev)] = M at *
        have c3 := kT.cell 3
        simp only [List.getElem?_toArray, List.getElem?_cons_zero, List.getElem?_cons_succ] at c3
        repeat still_step
        refine wpStill_nil ?_
        clear c3 kT
        intro q hq
        simp only [List.filterMap_cons, List.head?_cons, List.filterMap_nil, List.mem_cons, List.not_mem_nil, or_false, or_self] at hq
        obtain rfl | rfl : q = 3 ∨ q = 4 := by omega
        · refine wpOp_list rfl ?_
          simp only [tailsOf, List.filterMap_cons, List.filterMap_nil, if_true, if_false, reduceIte, Nat.reduceEqDiff, List.length_cons, List.length_nil, Nat.reduceAdd]
          clear hq
          refine wpList_append_flat (enc := Ev.enc) rfl (.tmp 25) (.tmp 27) 41 rfl w.heap.size 56 ie _ 4 32 Tryz.underlying41 hie hie1 hie2 hie3 rfl (by decide) (.slice Av (L.length + 1) cv) (Old w) M rfl hownM (fun _ => rfl) _ xo rfl hevM encE5 (by simp [maxLen]; omega) (by omega) hszM ?_
          intro v7 W7 hown7 hgrow7 hat7
          have kE7 := kE.grown hgrow7 (fun e => (hvM.out _ e.symm).2.2 rfl)
          have e0 := kE7.cell 0
          have e1 := kE7.cell 1
          have e2 := kE7.cell 2
          have e3 := kE7.cell 3
          simp only [List.getElem?_toArray, List.getElem?_cons_zero, List.getElem?_cons_succ] at e0 e1 e2 e3
          have hv7 := hide (fun j (hj : v7.ownBlock = some j) => (hown7.lt j hj).1)
          have hsz7 : w.heap.size ≤ W7.heap.size := Nat.le_trans hszM hgrow7.size
          have hb7 := hbM.grown hgrow7 hszM (fun g hg => (hvM.out g hg).1)
          have hown7x := hown7.alloc (.cells #[.int .i64 4, .int .i64 ts, .int .i64 0, .int .i64 0] 56)
          have kN7 := hide (show SlR 4 (Flat Ev.enc) (W7.alloc (.cells #[.int .i64 4, .int .i64 ts, .int .i64 0, .int .i64 0] 56)) (fun _ => True) (.slice (some ⟨W7.heap.size, 0, none⟩) 1 1) [(⟨4, ts, 0, 0⟩ : Ev)] from SlR.one (R := Flat Ev.enc) (size := 4) (K := fun _ => True) (x := (⟨4, ts, 0, 0⟩ : Ev)) (Blk.new W7 56 #[.int .i64 4, .int .i64 ts, .int .i64 0, .int .i64 0]) rfl rfl trivial)
          have hb7x := hb7.alloc hb7.size (.cells #[.int .i64 4, .int .i64 ts, .int .i64 0, .int .i64 0] 56)
          have hs7x : w.heap.size ≤ (W7.alloc (.cells #[.int .i64 4, .int .i64 ts, .int .i64 0, .int .i64 0] 56)).heap.size := by simp; omega
          clear hown7 hgrow7 hat7 hb7
          intro iq hiq
          have hiq : iq = 4 := by
            simp only [List.filterMap_cons, List.head?_cons, List.filterMap_nil, List.mem_cons, List.not_mem_nil, or_false, or_self] at hiq
            omega
          cases hiq
          refine wpOp_list rfl ?_
          simp only [tailsOf, List.filterMap_cons, List.filterMap_nil, if_true, if_false, reduceIte, Nat.reduceEqDiff, List.length_cons, List.length_nil, Nat.reduceAdd]
          go_wp2_with fail
          intro iq hiq
          have hiq : iq = 5 := by
            simp only [List.filterMap_cons, List.head?_cons, List.filterMap_nil, List.mem_cons, List.not_mem_nil, or_false, or_self] at hiq
            omega
          cases hiq
          refine wpOp_list rfl ?_
          simp only [tailsOf, List.filterMap_cons, List.filterMap_nil, if_true, if_false, reduceIte, Nat.reduceEqDiff, List.length_cons, List.length_nil, Nat.reduceAdd]
          go_wp2_with fail
          intro iq hiq
          have hiq : iq = 6 := by
            simp only [List.filterMap_cons, List.head?_cons, List.filterMap_nil, List.mem_cons, List.not_mem_nil, or_false, or_self] at hiq
            omega
          cases hiq
          refine wpOp_list rfl ?_
          simp only [tailsOf, List.filterMap_cons, List.filterMap_nil, if_true, if_false, reduceIte, Nat.reduceEqDiff, List.length_cons, List.length_nil, Nat.reduceAdd]
          refine wpList_append_flat (enc := Ev.enc) rfl (.tmp 28) (.tmp 30) 41 rfl w.heap.size 56 ie _ 4 32 Tryz.underlying41 hie hie1 hie2 hie3 rfl (by decide) v7 (fun _ => True) (M ++ xo) rfl hown7x (fun _ => rfl) _ [(⟨4, ts, 0, 0⟩ : Ev)] rfl kN7.out encE5 (by rw [List.length_append]; simp [maxLen]; omega) (by rw [List.length_append]; simp; omega) hs7x ?_
          intro v8 W8 hown8 hgrow8 hat8
          have hb8 := hb7x.grown hgrow8 hs7x (fun g hg => hv7.out g hg)
          clear hgrow8 hat8 hown7x hb7x kN7
          refine wpAlt_one _ _ _ _ rfl ?_
          simp only [List.filterMap_cons, List.filterMap_nil, List.getElem?_toArray, List.getElem?_cons_zero, List.getElem?_cons_succ]
          go_wp2
          go_roundw
          case rel => exact ⟨i + 1, v8, by omega, by go_num, rfl, by rw [hes.out, hMdef.out]; exact hown8, hb8⟩
          case measure => simp [intOf]; omega
        · refine wpOp_list rfl ?_
          simp only [tailsOf, List.filterMap_cons, List.filterMap_nil, if_true, if_false, reduceIte, Nat.reduceEqDiff, List.length_cons, List.length_nil, Nat.reduceAdd]
          clear hq
          have e0 := kE.cell 0
          have e1 := kE.cell 1
          have e2 := kE.cell 2
          have e3 := kE.cell 3
          simp only [List.getElem?_toArray, List.getElem?_cons_zero, List.getElem?_cons_succ] at e0 e1 e2 e3
          go_wp2_with fail
          clear e0 e1 e2 e3
          intro q hq
          simp only [List.filterMap_cons, List.head?_cons, List.filterMap_nil, List.mem_cons, List.not_mem_nil, or_false, or_self] at hq
          obtain rfl | rfl : q = 3 ∨ q = 5 := by omega
          · refine wpOp_list rfl ?_
            simp only [tailsOf, List.filterMap_cons, List.filterMap_nil, if_true, if_false, reduceIte, Nat.reduceEqDiff, List.length_cons, List.length_nil, Nat.reduceAdd]
            clear hq
            refine wpList_append_flat (enc := Ev.enc) rfl (.tmp 25) (.tmp 27) 41 rfl w.heap.size 56 ie _ 4 32 Tryz.underlying41 hie hie1 hie2 hie3 rfl (by decide) (.slice Av (L.length + 1) cv) (Old w) M rfl hownM (fun _ => rfl) _ xo rfl hevM encE5 (by simp [maxLen]; omega) (by omega) hszM ?_
            intro v7 W7 hown7 hgrow7 hat7
            have hv7 := hide (fun j (hj : v7.ownBlock = some j) => (hown7.lt j hj).1)
            have hsz7 : w.heap.size ≤ W7.heap.size := Nat.le_trans hszM hgrow7.size
            have hb7 := hbM.grown hgrow7 hszM (fun g hg => (hvM.out g hg).1)
            have hown7x := hown7.alloc (.cells #[.int .i64 4, .int .i64 ts, .int .i64 0, .int .i64 0] 56)
            have kN7 := hide (show SlR 4 (Flat Ev.enc) (W7.alloc (.cells #[.int .i64 4, .int .i64 ts, .int .i64 0, .int .i64 0] 56)) (fun _ => True) (.slice (some ⟨W7.heap.size, 0, none⟩) 1 1) [(⟨4, ts, 0, 0⟩ : Ev)] from SlR.one (R := Flat Ev.enc) (size := 4) (K := fun _ => True) (x := (⟨4, ts, 0, 0⟩ : Ev)) (Blk.new W7 56 #[.int .i64 4, .int .i64 ts, .int .i64 0, .int .i64 0]) rfl rfl trivial)
            have hb7x := hb7.alloc hb7.size (.cells #[.int .i64 4, .int .i64 ts, .int .i64 0, .int .i64 0] 56)
            have hs7x : w.heap.size ≤ (W7.alloc (.cells #[.int .i64 4, .int .i64 ts, .int .i64 0, .int .i64 0] 56)).heap.size := by simp; omega
            clear hown7 hgrow7 hat7 hb7
            intro iq hiq
            have hiq : iq = 5 := by
              simp only [List.filterMap_cons, List.head?_cons, List.filterMap_nil, List.mem_cons, List.not_mem_nil, or_false, or_self] at hiq
              omega
            cases hiq
            refine wpOp_list rfl ?_
            simp only [tailsOf, List.filterMap_cons, List.filterMap_nil, if_true, if_false, reduceIte, Nat.reduceEqDiff, List.length_cons, List.length_nil, Nat.reduceAdd]
            go_wp2_with fail
            intro iq hiq
            have hiq : iq = 6 := by
              simp only [List.filterMap_cons, List.head?_cons, List.filterMap_nil, List.mem_cons, List.not_mem_nil, or_false, or_self] at hiq
              omega
            cases hiq
            refine wpOp_list rfl ?_
            simp only [tailsOf, List.filterMap_cons, List.filterMap_nil, if_true, if_false, reduceIte, Nat.reduceEqDiff, List.length_cons, List.length_nil, Nat.reduceAdd]
            refine wpList_append_flat (enc := Ev.enc) rfl (.tmp 28) (.tmp 30) 41 rfl w.heap.size 56 ie _ 4 32 Tryz.underlying41 hie hie1 hie2 hie3 rfl (by decide) v7 (fun _ => True) (M ++ xo) rfl hown7x (fun _ => rfl) _ [(⟨4, ts, 0, 0⟩ : Ev)] rfl kN7.out encE5 (by rw [List.length_append]; simp [maxLen]; omega) (by rw [List.length_append]; simp; omega) hs7x ?_
            intro v8 W8 hown8 hgrow8 hat8
            have hb8 := hb7x.grown hgrow8 hs7x (fun g hg => hv7.out g hg)
            clear hgrow8 hat8 hown7x hb7x kN7
            refine wpAlt_one _ _ _ _ rfl ?_
            simp only [List.filterMap_cons, List.filterMap_nil, List.getElem?_toArray, List.getElem?_cons_zero, List.getElem?_cons_succ]
            go_wp2
            go_roundw
            case rel => exact ⟨i + 1, v8, by omega, by go_num, rfl, by rw [hes.out, hMdef.out]; exact hown8, hb8⟩
            case measure => simp [intOf]; omega
          · refine wpOp_list rfl ?_
            simp only [tailsOf, List.filterMap_cons, List.filterMap_nil, if_true, if_false, reduceIte, Nat.reduceEqDiff, List.length_cons, List.length_nil, Nat.reduceAdd]
            clear hq
            have hownC := hownM.alloc (.cells #[.int .i64 4, .int .i64 ts, .int .i64 0, .int .i64 0] 56)
            have hevC := EvS.keep hevM (Agree.alloc (K := Old w) (w := W6d) (fun b hb => Nat.lt_of_lt_of_le hb hszM) (.cells #[.int .i64 4, .int .i64 ts, .int .i64 0, .int .i64 0] 56)) (fun b h => h)
            have hbC := hbM.alloc hszM (.cells #[.int .i64 4, .int .i64 ts, .int .i64 0, .int .i64 0] 56)
            have hszC : w.heap.size ≤ (W6d.alloc (.cells #[.int .i64 4, .int .i64 ts, .int .i64 0, .int .i64 0] 56)).heap.size := by simp; omega
            have hltC := hide (fun j hj => (hownM.lt j hj).2)
            have kC := hide (Blk.new W6d 56 #[.int .i64 4, .int .i64 ts, .int .i64 0, .int .i64 0])
            clear hownM hevM hbM
            go_wp2_with fail
            intro iq hiq
            have hiq : iq = 3 := by
              simp only [List.filterMap_cons, List.head?_cons, List.filterMap_nil, List.mem_cons, List.not_mem_nil, or_false, or_self] at hiq
              omega
            cases hiq
            refine wpOp_list rfl ?_
            simp only [tailsOf, List.filterMap_cons, List.filterMap_nil, if_true, if_false, reduceIte, Nat.reduceEqDiff, List.length_cons, List.length_nil, Nat.reduceAdd]
            refine wpList_append_flat (enc := Ev.enc) rfl (.tmp 25) (.tmp 27) 41 rfl w.heap.size 56 ie _ 4 32 Tryz.underlying41 hie hie1 hie2 hie3 rfl (by decide) (.slice Av (L.length + 1) cv) (Old w) M rfl hownC (fun _ => rfl) _ xo rfl hevC encE5 (by simp [maxLen]; omega) (by omega) hszC ?_
            intro v7 W7 hown7x hgrow7 hat7
            have hv7 := hide (fun j (hj : v7.ownBlock = some j) => (hown7x.lt j hj).1)
            have hs7x : w.heap.size ≤ W7.heap.size := Nat.le_trans hszC hgrow7.size
            have hb7x := hbC.grown hgrow7 hszC (fun g hg => (hvM.out g hg).1)
            have kN7 := hide (show SlR 4 (Flat Ev.enc) W7 (fun _ => True) (.slice (some ⟨W6d.heap.size, 0, none⟩) 1 1) [(⟨4, ts, 0, 0⟩ : Ev)] from SlR.one (R := Flat Ev.enc) (size := 4) (K := fun _ => True) (x := (⟨4, ts, 0, 0⟩ : Ev)) (kC.out.grown hgrow7 (fun e => by have := hltC.out _ e.symm; omega)) rfl rfl trivial)
            clear hgrow7 hat7 hbC hownC hevC
            intro iq hiq
            have hiq : iq = 6 := by
              simp only [List.filterMap_cons, List.head?_cons, List.filterMap_nil, List.mem_cons, List.not_mem_nil, or_false, or_self] at hiq
              omega
            cases hiq
            refine wpOp_list rfl ?_
            simp only [tailsOf, List.filterMap_cons, List.filterMap_nil, if_true, if_false, reduceIte, Nat.reduceEqDiff, List.length_cons, List.length_nil, Nat.reduceAdd]
            refine wpList_append_flat (enc := Ev.enc) rfl (.tmp 28) (.tmp 30) 41 rfl w.heap.size 56 ie _ 4 32 Tryz.underlying41 hie hie1 hie2 hie3 rfl (by decide) v7 (fun _ => True) (M ++ xo) rfl hown7x (fun _ => rfl) _ [(⟨4, ts, 0, 0⟩ : Ev)] rfl kN7.out encE5 (by rw [List.length_append]; simp [maxLen]; omega) (by rw [List.length_append]; simp; omega) hs7x ?_
            intro v8 W8 hown8 hgrow8 hat8
            have hb8 := hb7x.grown hgrow8 hs7x (fun g hg => hv7.out g hg)
            clear hgrow8 hat8 hown7x hb7x kN7
            refine wpAlt_one _ _ _ _ rfl ?_
            simp only [List.filterMap_cons, List.filterMap_nil, List.getElem?_toArray, List.getElem?_cons_zero, List.getElem?_cons_succ]
            go_wp2
            go_roundw
            case rel => exact ⟨i + 1, v8, by omega, by go_num, rfl, by rw [hes.out, hMdef.out]; exact hown8, hb8⟩
            case measure => simp [intOf]; omega
      | true =>
        have hoff := hide (fun j (hj : v.ownBlock = some j) => hown.lt j hj)
        have hsw := hb.size
        have hownX : (((wr.alloc (.cells #[.int .i64 ts, .bool true, .int .i64 tf, .slice A' xo.length c'] 49)).alloc (.cells #[.int .i64 3, .int .i64 ts, .int .i64 0, .int .i64 0] 56)).alloc (.cells #[.int .i64 0, .int .i64 ts, .int .i64 0, .int .i64 0] 56)).ownsRow w.heap.size 56 4 v L.length (L.map Ev.enc).flatten := ((hown.alloc _).alloc _).alloc _
        have kN := hide (show SlR 4 (Flat Ev.enc) (((wr.alloc (.cells #[.int .i64 ts, .bool true, .int .i64 tf, .slice A' xo.length c'] 49)).alloc (.cells #[.int .i64 3, .int .i64 ts, .int .i64 0, .int .i64 0] 56)).alloc (.cells #[.int .i64 0, .int .i64 ts, .int .i64 0, .int .i64 0] 56)) (fun _ => True) (.slice (some ⟨wr.heap.size + 2, 0, none⟩) 1 1) [(⟨0, ts, 0, 0⟩ : Ev)] by
          have := SlR.one (R := Flat Ev.enc) (size := 4) (K := fun _ => True) (x := (⟨0, ts, 0, 0⟩ : Ev)) (Blk.new ((wr.alloc (.cells #[.int .i64 ts, .bool true, .int .i64 tf, .slice A' xo.length c'] 49)).alloc (.cells #[.int .i64 3, .int .i64 ts, .int .i64 0, .int .i64 0] 56)) 56 #[.int .i64 0, .int .i64 ts, .int .i64 0, .int .i64 0]) rfl rfl trivial
          rwa [show ((wr.alloc (.cells #[.int .i64 ts, .bool true, .int .i64 tf, .slice A' xo.length c'] 49)).alloc (.cells #[.int .i64 3, .int .i64 ts, .int .i64 0, .int .i64 0] 56)).heap.size = wr.heap.size + 2 by simp] at this)
        have kT0 : Blk (((wr.alloc (.cells #[.int .i64 ts, .bool true, .int .i64 tf, .slice A' xo.length c'] 49)).alloc (.cells #[.int .i64 3, .int .i64 ts, .int .i64 0, .int .i64 0] 56)).alloc (.cells #[.int .i64 0, .int .i64 ts, .int .i64 0, .int .i64 0] 56)) wr.heap.size 49 #[.int .i64 ts, .bool true, .int .i64 tf, .slice A' xo.length c'] := ((Blk.new _ _ _).alloc _).alloc _
        have kE0 : Blk (((wr.alloc (.cells #[.int .i64 ts, .bool true, .int .i64 tf, .slice A' xo.length c'] 49)).alloc (.cells #[.int .i64 3, .int .i64 ts, .int .i64 0, .int .i64 0] 56)).alloc (.cells #[.int .i64 0, .int .i64 ts, .int .i64 0, .int .i64 0] 56)) (wr.heap.size + 1) 56 #[.int .i64 3, .int .i64 ts, .int .i64 0, .int .i64 0] := by
          have := Blk.new (wr.alloc (.cells #[.int .i64 ts, .bool true, .int .i64 tf, .slice A' xo.length c'] 49)) 56 #[.int .i64 3, .int .i64 ts, .int .i64 0, .int .i64 0]
          simp only [World.size_alloc] at this
          exact this.alloc _
        have hbX : Below w.heap.size w (((wr.alloc (.cells #[.int .i64 ts, .bool true, .int .i64 tf, .slice A' xo.length c'] 49)).alloc (.cells #[.int .i64 3, .int .i64 ts, .int .i64 0, .int .i64 0] 56)).alloc (.cells #[.int .i64 0, .int .i64 ts, .int .i64 0, .int .i64 0] 56)) := ((hb.alloc hsw _).alloc (by simp; omega) _).alloc (by simp; omega) _
        have hszX : (((wr.alloc (.cells #[.int .i64 ts, .bool true, .int .i64 tf, .slice A' xo.length c'] 49)).alloc (.cells #[.int .i64 3, .int .i64 ts, .int .i64 0, .int .i64 0] 56)).alloc (.cells #[.int .i64 0, .int .i64 ts, .int .i64 0, .int .i64 0] 56)).heap.size = wr.heap.size + 3 := by simp
        replace hszX := hide hszX
        replace kT0 := hide kT0
        replace kE0 := hide kE0
        have hMdef : L ++ txEvents ⟨ts, true, tf, xo⟩ = L ++ [⟨0, ts, 0, 0⟩] ++ xo ++ [⟨3, ts, 0, 0⟩] := by unfold txEvents; simp
        replace hMdef := hide hMdef
        clear hown
        go_wp2_with (at_builtin; refine wpList_append_flat (enc := Ev.enc) rfl (.tmp 19) (.tmp 23) 41 rfl w.heap.size 56 ie _ 4 32 Tryz.underlying41 hie hie1 hie2 hie3 rfl (by decide) v (fun _ => True) L rfl hownX (fun _ => rfl) _ [(⟨0, ts, 0, 0⟩ : Ev)] rfl kN.out encE5 (by simp [maxLen]; omega) (by simp; omega) (by simp; omega) ?_; intro v6 W6 hown6 hgrow6 hat6; obtain ⟨Av, cv, rfl⟩ := own_slice hown6; have hg6 := hgrow6.size)
        have hML : (L ++ [(⟨0, ts, 0, 0⟩ : Ev)]).length = L.length + 1 := by simp
        rw [hML] at hown6 hat6
        have hvM := hide (fun j (hj : (Value.slice Av (L.length + 1) cv).ownBlock = some j) => (by
          refine ⟨(hown6.lt j hj).1, ?_⟩
          rcases hat6 with e | e
          · rw [e] at hj; have := (hoff.out j hj).2; omega
          · rw [e, hszX.out] at hj; injection hj with hj; omega : w.heap.size ≤ j ∧ j ≠ wr.heap.size ∧ j ≠ wr.heap.size + 1))
        have hvX : ∀ g, wr.heap.size ≤ g → some g ≠ v.ownBlock := fun g hg e => by have := (hoff.out g e.symm).2; omega
        have kT := kT0.out.grown hgrow6 (hvX _ (Nat.le_refl _))
        have kE := kE0.out.grown hgrow6 (hvX _ (Nat.le_succ _))
        have hbM := (hbX.grown hgrow6 hbX.size (fun g hg => (hoff.out g hg).1)).drew
        have hevM := EvS.keep hev (Agree.below (w := wr) (w' := W6.drew) (B := w.heap.size) (K := Old w) (((((Below.refl w.heap.size wr).alloc hsw _).alloc (by simp; omega) _).alloc (by simp; omega) _).grown hgrow6 (by simp; omega) (fun g hg => (hoff.out g hg).1)).drew (fun b h => h)) (fun b h => h)
        rw [hszX.out] at hg6
        have hszM : w.heap.size ≤ W6.drew.heap.size := by show _ ≤ W6.heap.size; omega
        replace kT := kT.drew
        replace kE := kE.drew
        have hM1 : (L ++ [(⟨0, ts, 0, 0⟩ : Ev)]).length ≤ 1003000 := by omega
        have hownM : W6.drew.ownsRow w.heap.size 56 4 (.slice Av (L.length + 1) cv) (L ++ [(⟨0, ts, 0, 0⟩ : Ev)]).length ((L ++ [(⟨0, ts, 0, 0⟩ : Ev)]).map Ev.enc).flatten := by
          rw [hML]
          exact hown6.drew
        clear hat6 hown6 hgrow6 kT0 kE0 hbX hownX kN hvX hML
        refine wp_region_alts [0, 1, 2] [3, 4, 5, 6, 7] [[3, 4, 5, 6, 7], [4, 3, 5, 6, 7], [4, 5, 3, 6, 7]] (by kernel_rfl) (by kernel_rfl) (fun _ _ d _ _ h => by cases d <;> exact h) ?_
        simp only [List.filterMap_cons, List.filterMap_nil, List.getElem?_cons_zero, List.getElem?_cons_succ]
        generalize W6.drew = W6d at *
        generalize L ++ [(⟨0, ts, 0, 0⟩ : Ev)] = M at *
        have c3 := kT.cell 3
        simp only [List.getElem?_toArray, List.getElem?_cons_zero, List.getElem?_cons_succ] at c3
        repeat still_step
        refine wpStill_nil ?_
        clear c3 kT
        intro q hq
        simp only [List.filterMap_cons, List.head?_cons, List.filterMap_nil, List.mem_cons, List.not_mem_nil, or_false, or_self] at hq
        obtain rfl | rfl : q = 3 ∨ q = 4 := by omega
        · refine wpOp_list rfl ?_
          simp only [tailsOf, List.filterMap_cons, List.filterMap_nil, if_true, if_false, reduceIte, Nat.reduceEqDiff, List.length_cons, List.length_nil, Nat.reduceAdd]
          clear hq
          refine wpList_append_flat (enc := Ev.enc) rfl (.tmp 25) (.tmp 27) 41 rfl w.heap.size 56 ie _ 4 32 Tryz.underlying41 hie hie1 hie2 hie3 rfl (by decide) (.slice Av (L.length + 1) cv) (Old w) M rfl hownM (fun _ => rfl) _ xo rfl hevM encE5 (by simp [maxLen]; omega) (by omega) hszM ?_
          intro v7 W7 hown7 hgrow7 hat7
          have kE7 := kE.grown hgrow7 (fun e => (hvM.out _ e.symm).2.2 rfl)
          have e0 := kE7.cell 0
          have e1 := kE7.cell 1
          have e2 := kE7.cell 2
          have e3 := kE7.cell 3
          simp only [List.getElem?_toArray, List.getElem?_cons_zero, List.getElem?_cons_succ] at e0 e1 e2 e3
          have hv7 := hide (fun j (hj : v7.ownBlock = some j) => (hown7.lt j hj).1)
          have hsz7 : w.heap.size ≤ W7.heap.size := Nat.le_trans hszM hgrow7.size
          have hb7 := hbM.grown hgrow7 hszM (fun g hg => (hvM.out g hg).1)
          have hown7x := hown7.alloc (.cells #[.int .i64 3, .int .i64 ts, .int .i64 0, .int .i64 0] 56)
          have kN7 := hide (show SlR 4 (Flat Ev.enc) (W7.alloc (.cells #[.int .i64 3, .int .i64 ts, .int .i64 0, .int .i64 0] 56)) (fun _ => True) (.slice (some ⟨W7.heap.size, 0, none⟩) 1 1) [(⟨3, ts, 0, 0⟩ : Ev)] from SlR.one (R := Flat Ev.enc) (size := 4) (K := fun _ => True) (x := (⟨3, ts, 0, 0⟩ : Ev)) (Blk.new W7 56 #[.int .i64 3, .int .i64 ts, .int .i64 0, .int .i64 0]) rfl rfl trivial)
          have hb7x := hb7.alloc hb7.size (.cells #[.int .i64 3, .int .i64 ts, .int .i64 0, .int .i64 0] 56)
          have hs7x : w.heap.size ≤ (W7.alloc (.cells #[.int .i64 3, .int .i64 ts, .int .i64 0, .int .i64 0] 56)).heap.size := by simp; omega
          clear hown7 hgrow7 hat7 hb7
          intro iq hiq
          have hiq : iq = 4 := by
            simp only [List.filterMap_cons, List.head?_cons, List.filterMap_nil, List.mem_cons, List.not_mem_nil, or_false, or_self] at hiq
            omega
          cases hiq
          refine wpOp_list rfl ?_
          simp only [tailsOf, List.filterMap_cons, List.filterMap_nil, if_true, if_false, reduceIte, Nat.reduceEqDiff, List.length_cons, List.length_nil, Nat.reduceAdd]
          go_wp2_with fail
          intro iq hiq
          have hiq : iq = 5 := by
            simp only [List.filterMap_cons, List.head?_cons, List.filterMap_nil, List.mem_cons, List.not_mem_nil, or_false, or_self] at hiq
            omega
          cases hiq
          refine wpOp_list rfl ?_
          simp only [tailsOf, List.filterMap_cons, List.filterMap_nil, if_true, if_false, reduceIte, Nat.reduceEqDiff, List.length_cons, List.length_nil, Nat.reduceAdd]
          go_wp2_with fail
          intro iq hiq
          have hiq : iq = 6 := by
            simp only [List.filterMap_cons, List.head?_cons, List.filterMap_nil, List.mem_cons, List.not_mem_nil, or_false, or_self] at hiq
            omega
          cases hiq
          refine wpOp_list rfl ?_
          simp only [tailsOf, List.filterMap_cons, List.filterMap_nil, if_true, if_false, reduceIte, Nat.reduceEqDiff, List.length_cons, List.length_nil, Nat.reduceAdd]
          refine wpList_append_flat (enc := Ev.enc) rfl (.tmp 28) (.tmp 30) 41 rfl w.heap.size 56 ie _ 4 32 Tryz.underlying41 hie hie1 hie2 hie3 rfl (by decide) v7 (fun _ => True) (M ++ xo) rfl hown7x (fun _ => rfl) _ [(⟨3, ts, 0, 0⟩ : Ev)] rfl kN7.out encE5 (by rw [List.length_append]; simp [maxLen]; omega) (by rw [List.length_append]; simp; omega) hs7x ?_
          intro v8 W8 hown8 hgrow8 hat8
          have hb8 := hb7x.grown hgrow8 hs7x (fun g hg => hv7.out g hg)
          clear hgrow8 hat8 hown7x hb7x kN7
          refine wpAlt_one _ _ _ _ rfl ?_
          simp only [List.filterMap_cons, List.filterMap_nil, List.getElem?_toArray, List.getElem?_cons_zero, List.getElem?_cons_succ]
          go_wp2
          go_roundw
          case rel => exact ⟨i + 1, v8, by omega, by go_num, rfl, by rw [hes.out, hMdef.out]; exact hown8, hb8⟩
          case measure => simp [intOf]; omega
        · refine wpOp_list rfl ?_
          simp only [tailsOf, List.filterMap_cons, List.filterMap_nil, if_true, if_false, reduceIte, Nat.reduceEqDiff, List.length_cons, List.length_nil, Nat.reduceAdd]
          clear hq
          have e0 := kE.cell 0
          have e1 := kE.cell 1
          have e2 := kE.cell 2
          have e3 := kE.cell 3
          simp only [List.getElem?_toArray, List.getElem?_cons_zero, List.getElem?_cons_succ] at e0 e1 e2 e3
          go_wp2_with fail
          clear e0 e1 e2 e3
          intro q hq
          simp only [List.filterMap_cons, List.head?_cons, List.filterMap_nil, List.mem_cons, List.not_mem_nil, or_false, or_self] at hq
          obtain rfl | rfl : q = 3 ∨ q = 5 := by omega
          · refine wpOp_list rfl ?_
            simp only [tailsOf, List.filterMap_cons, List.filterMap_nil, if_true, if_false, reduceIte, Nat.reduceEqDiff, List.length_cons, List.length_nil, Nat.reduceAdd]
            clear hq
            refine wpList_append_flat (enc := Ev.enc) rfl (.tmp 25) (.tmp 27) 41 rfl w.heap.size 56 ie _ 4 32 Tryz.underlying41 hie hie1 hie2 hie3 rfl (by decide) (.slice Av (L.length + 1) cv) (Old w) M rfl hownM (fun _ => rfl) _ xo rfl hevM encE5 (by simp [maxLen]; omega) (by omega) hszM ?_
            intro v7 W7 hown7 hgrow7 hat7
            have hv7 := hide (fun j (hj : v7.ownBlock = some j) => (hown7.lt j hj).1)
            have hsz7 : w.heap.size ≤ W7.heap.size := Nat.le_trans hszM hgrow7.size
            have hb7 := hbM.grown hgrow7 hszM (fun g hg => (hvM.out g hg).1)
            have hown7x := hown7.alloc (.cells #[.int .i64 3, .int .i64 ts, .int .i64 0, .int .i64 0] 56)
            have kN7 := hide (show SlR 4 (Flat Ev.enc) (W7.alloc (.cells #[.int .i64 3, .int .i64 ts, .int .i64 0, .int .i64 0] 56)) (fun _ => True) (.slice (some ⟨W7.heap.size, 0, none⟩) 1 1) [(⟨3, ts, 0, 0⟩ : Ev)] from SlR.one (R := Flat Ev.enc) (size := 4) (K := fun _ => True) (x := (⟨3, ts, 0, 0⟩ : Ev)) (Blk.new W7 56 #[.int .i64 3, .int .i64 ts, .int .i64 0, .int .i64 0]) rfl rfl trivial)
            have hb7x := hb7.alloc hb7.size (.cells #[.int .i64 3, .int .i64 ts, .int .i64 0, .int .i64 0] 56)
            have hs7x : w.heap.size ≤ (W7.alloc (.cells #[.int .i64 3, .int .i64 ts, .int .i64 0, .int .i64 0] 56)).heap.size := by simp; omega
            clear hown7 hgrow7 hat7 hb7
            intro iq hiq
            have hiq : iq = 5 := by
              simp only [List.filterMap_cons, List.head?_cons, List.filterMap_nil, List.mem_cons, List.not_mem_nil, or_false, or_self] at hiq
              omega
            cases hiq
            refine wpOp_list rfl ?_
            simp only [tailsOf, List.filterMap_cons, List.filterMap_nil, if_true, if_false, reduceIte, Nat.reduceEqDiff, List.length_cons, List.length_nil, Nat.reduceAdd]
            go_wp2_with fail
            intro iq hiq
            have hiq : iq = 6 := by
              simp only [List.filterMap_cons, List.head?_cons, List.filterMap_nil, List.mem_cons, List.not_mem_nil, or_false, or_self] at hiq
              omega
            cases hiq
            refine wpOp_list rfl ?_
            simp only [tailsOf, List.filterMap_cons, List.filterMap_nil, if_true, if_false, reduceIte, Nat.reduceEqDiff, List.length_cons, List.length_nil, Nat.reduceAdd]
            refine wpList_append_flat (enc := Ev.enc) rfl (.tmp 28) (.tmp 30) 41 rfl w.heap.size 56 ie _ 4 32 Tryz.underlying41 hie hie1 hie2 hie3 rfl (by decide) v7 (fun _ => True) (M ++ xo) rfl hown7x (fun _ => rfl) _ [(⟨3, ts, 0, 0⟩ : Ev)] rfl kN7.out encE5 (by rw [List.length_append]; simp [maxLen]; omega) (by rw [List.length_append]; simp; omega) hs7x ?_
            intro v8 W8 hown8 hgrow8 hat8
            have hb8 := hb7x.grown hgrow8 hs7x (fun g hg => hv7.out g hg)
            clear hgrow8 hat8 hown7x hb7x kN7
            refine wpAlt_one _ _ _ _ rfl ?_
            simp only [List.filterMap_cons, List.filterMap_nil, List.getElem?_toArray, List.getElem?_cons_zero, List.getElem?_cons_succ]
            go_wp2
            go_roundw
            case rel => exact ⟨i + 1, v8, by omega, by go_num, rfl, by rw [hes.out, hMdef.out]; exact hown8, hb8⟩
            case measure => simp [intOf]; omega
          · refine wpOp_list rfl ?_
            simp only [tailsOf, List.filterMap_cons, List.filterMap_nil, if_true, if_false, reduceIte, Nat.reduceEqDiff, List.length_cons, List.length_nil, Nat.reduceAdd]
            clear hq
            have hownC := hownM.alloc (.cells #[.int .i64 3, .int .i64 ts, .int .i64 0, .int .i64 0] 56)
            have hevC := EvS.keep hevM (Agree.alloc (K := Old w) (w := W6d) (fun b hb => Nat.lt_of_lt_of_le hb hszM) (.cells #[.int .i64 3, .int .i64 ts, .int .i64 0, .int .i64 0] 56)) (fun b h => h)
            have hbC := hbM.alloc hszM (.cells #[.int .i64 3, .int .i64 ts, .int .i64 0, .int .i64 0] 56)
            have hszC : w.heap.size ≤ (W6d.alloc (.cells #[.int .i64 3, .int .i64 ts, .int .i64 0, .int .i64 0] 56)).heap.size := by simp; omega
            have hltC := hide (fun j hj => (hownM.lt j hj).2)
            have kC := hide (Blk.new W6d 56 #[.int .i64 3, .int .i64 ts, .int .i64 0, .int .i64 0])
            clear hownM hevM hbM
            go_wp2_with fail
            intro iq hiq
            have hiq : iq = 3 := by
              simp only [List.filterMap_cons, List.head?_cons, List.filterMap_nil, List.mem_cons, List.not_mem_nil, or_false, or_self] at hiq
              omega
            cases hiq
            refine wpOp_list rfl ?_
            simp only [tailsOf, List.filterMap_cons, List.filterMap_nil, if_true, if_false, reduceIte, Nat.reduceEqDiff, List.length_cons, List.length_nil, Nat.reduceAdd]
            refine wpList_append_flat (enc := Ev.enc) rfl (.tmp 25) (.tmp 27) 41 rfl w.heap.size 56 ie _ 4 32 Tryz.underlying41 hie hie1 hie2 hie3 rfl (by decide) (.slice Av (L.length + 1) cv) (Old w) M rfl hownC (fun _ => rfl) _ xo rfl hevC encE5 (by simp [maxLen]; omega) (by omega) hszC ?_
            intro v7 W7 hown7x hgrow7 hat7
            have hv7 := hide (fun j (hj : v7.ownBlock = some j) => (hown7x.lt j hj).1)
            have hs7x : w.heap.size ≤ W7.heap.size := Nat.le_trans hszC hgrow7.size
            have hb7x := hbC.grown hgrow7 hszC (fun g hg => (hvM.out g hg).1)
            have kN7 := hide (show SlR 4 (Flat Ev.enc) W7 (fun _ => True) (.slice (some ⟨W6d.heap.size, 0, none⟩) 1 1) [(⟨3, ts, 0, 0⟩ : Ev)] from SlR.one (R := Flat Ev.enc) (size := 4) (K := fun _ => True) (x := (⟨3, ts, 0, 0⟩ : Ev)) (kC.out.grown hgrow7 (fun e => by have := hltC.out _ e.symm; omega)) rfl rfl trivial)
            clear hgrow7 hat7 hbC hownC hevC
            intro iq hiq
            have hiq : iq = 6 := by
              simp only [List.filterMap_cons, List.head?_cons, List.filterMap_nil, List.mem_cons, List.not_mem_nil, or_false, or_self] at hiq
              omega
            cases hiq
            refine wpOp_list rfl ?_
            simp only [tailsOf, List.filterMap_cons, List.filterMap_nil, if_true, if_false, reduceIte, Nat.reduceEqDiff, List.length_cons, List.length_nil, Nat.reduceAdd]
            refine wpList_append_flat (enc := Ev.enc) rfl (.tmp 28) (.tmp 30) 41 rfl w.heap.size 56 ie _ 4 32 Tryz.underlying41 hie hie1 hie2 hie3 rfl (by decide) v7 (fun _ => True) (M ++ xo) rfl hown7x (fun _ => rfl) _ [(⟨3, ts, 0, 0⟩ : Ev)] rfl kN7.out encE5 (by rw [List.length_append]; simp [maxLen]; omega) (by rw [List.length_append]; simp; omega) hs7x ?_
            intro v8 W8 hown8 hgrow8 hat8
            have hb8 := hb7x.grown hgrow8 hs7x (fun g hg => hv7.out g hg)
            clear hgrow8 hat8 hown7x hb7x kN7
            refine wpAlt_one _ _ _ _ rfl ?_
            simp only [List.filterMap_cons, List.filterMap_nil, List.getElem?_toArray, List.getElem?_cons_zero, List.getElem?_cons_succ]
            go_wp2
            go_roundw
            case rel => exact ⟨i + 1, v8, by omega, by go_num, rfl, by rw [hes.out, hMdef.out]; exact hown8, hb8⟩
            case measure => simp [intOf]; omega
    · have : i = l.length := by omega
      subst this
      rw [List.take_length] at hown
      obtain ⟨A', c', rfl⟩ := own_slice hown
      have hS : EvS wr (fun b => w.heap.size ≤ b ∧ b < wr.heap.size) (.slice A' (eventsR l).length c') (eventsR l) := SlR.of_flat hown rfl (fun _ => rfl) (fun g h1 h2 => ⟨h1, h2⟩)
      clear hown
      go_wp2
      go_ret
      exact ⟨A', c', rfl, hS, hb⟩
end Go.Proofs.YtphcebgpllecjaaGreatDoor
