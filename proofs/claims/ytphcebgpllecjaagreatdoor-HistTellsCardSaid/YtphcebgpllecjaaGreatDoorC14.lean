/-
  Walks: layer 5: group.Group.
-/
import Derived.Test.YtphcebgpllecjaaGreatDoorC11
import Derived.Test.YtphcebgpllecjaaGreatDoorC02
import Derived.Test.YtphcebgpllecjaaGreatDoorC13
set_option linter.unusedVariables false
set_option linter.unusedSimpArgs false
namespace Go.Proofs.YtphcebgpllecjaaGreatDoor
open Go.RowKit Go.Inq
set_option maxHeartbeats 4000000
attribute [local go_sem ↓] Go.wp_at_zero Go.wp_at_succ

def encN (n : Nat) : Value := .int .i64 n
/-- What a Group hands back. -/
def GrpOut (r : List Tx × Int × Int) (w : World) (e : Ending) (w' : World) : Prop :=
  ∃ v, e = .returned (.tuple #[v, .int .i64 r.2.1, .int .i64 r.2.2]) ∧ TxS w' (fun b => w.heap.size ≤ b ∧ b < w'.heap.size) v r.1 ∧ Below w.heap.size w w'
theorem infoG5 : (Tryz.prog.info? 49).map (fun i => (i.zero, i.size, i.bytes)) = some (some (.agg #[.int .i64 0, .bool false, .int .i64 0, .slice none 0 0]), 4, 48) := by kernel_rfl
theorem infoE5 : (Tryz.prog.info? 56).map (fun i => (i.zero, i.size, i.bytes)) = some (some (.agg #[.int .i64 0, .int .i64 0, .int .i64 0, .int .i64 0]), 4, 32) := by kernel_rfl
theorem encE5 : ∀ (x : Ev), ∀ u ∈ x.enc, u.oneCell' = true := by
  intro x u hu; unfold Ev.enc at hu; simp at hu; rcases hu with rfl | rfl | rfl | rfl <;> rfl
theorem zeroI5 (w : World) : (zeroValue 3).run Tryz.prog w = .ok (.int .i64 0) w := by kernel_rfl
theorem setBlock_grown (w : World) (g : Nat) (o : Obj) : w.grownBy (ChangeMaps.setBlock w g o) (some g) :=
  ⟨rfl, rfl, rfl, by rw [setBlock_size]; exact Nat.le_refl _, fun k _ hk => setBlock_heap w g k o (fun e => hk (by rw [e]))⟩
theorem right_kind {e : Ev} (h : e.right = true) : 0 ≤ e.kind ∧ e.kind < 5 := by
  unfold Ev.right at h
  rw [Bool.and_eq_true, Bool.and_eq_true] at h
  have := h.1.1
  unfold belowB at this
  simpa using this
theorem grpTo_ops (l : List Ev) : ∀ n, ∀ t ∈ (grpTo l n).out, t.ops.length ≤ n
  | 0, t, h => by simp [grpTo] at h
  | n + 1, t, h => by
    have ih := grpTo_ops l n
    rw [grpTo] at h
    cases hl : l[n]? with
    | none => rw [hl] at h; have := ih t h; omega
    | some e =>
      rw [hl] at h
      dsimp only at h
      unfold Grp.next at h
      by_cases h0 : e.kind = 0
      · rw [if_pos h0] at h
        rcases List.mem_append.1 h with h | h
        · have := ih t h; omega
        · simp at h; subst h; simp
      · rw [if_neg h0] at h
        cases ha : (grpTo l n).at_ e.sess with
        | none => rw [ha] at h; have := ih t h; omega
        | some k =>
          have hk := (Grp.at_lt ha).1
          have hm := ih _ (List.getElem_mem hk)
          have hg : (grpTo l n).out[k]?.getD noTx = (grpTo l n).out[k] := by rw [List.getElem?_eq_getElem hk]; rfl
          rw [ha] at h
          dsimp only at h
          rw [hg] at h
          split at h
          · rcases List.mem_or_eq_of_mem_set h with h | h
            · have := ih t h; omega
            · subst h; simp [addOp]; omega
          · rcases List.mem_or_eq_of_mem_set h with h | h
            · have := ih t h; omega
            · subst h; simp only [shutT]; omega

set_option maxRecDepth 100000 in
theorem group5_any (l : List Ev) (A : Option Addr) (c : Nat) (w : World) (h : EvS w (Old w) (.slice A l.length c) l) (hn : l.length ≤ 1000) :
    Calls Tryz.prog 14 #[.slice A l.length c] w (GrpOut (groupR l) w) := by
  obtain ⟨ig, hig, hig1, hig2, hig3⟩ := info_parts infoG5
  obtain ⟨ie, hie, hie1, hie2, hie3⟩ := info_parts infoE5
  have hmm := @run_makeMap Tryz.prog
  have hbad := hide (fun i => groupR_bad (l := l) (i := i))
  have hgood := hide (groupR_good (l := l))
  have hg0 : MapN encN (w.alloc (.map #[] 0)) w.heap.size (grpTo l 0).at_ := (MapN.new w).same fun s => rfl
  have hA : Below w.heap.size w (w.alloc (.map #[] 0)) := (Below.refl _ _).alloc (Nat.le_refl _) _
  have hsA : w.heap.size + 1 ≤ (w.alloc (.map #[] 0)).heap.size := by simp
  have hlen := hide (grpTo_len l)
  have hopl := hide (grpTo_ops l)
  go_enter Tryz.func14, Tryz.ntmps14
  go_wp2_with fail
  generalize w.alloc (.map #[] 0) = W0 at *
  go_loopw [5, 14] (fun s5 s14 wr => ∃ (i : Nat) (v : Value) (vs : List Value), i ≤ l.length ∧ s14 = .int .i64 i ∧ v = s5 ∧ NestT wr (w.heap.size + 1) 49 56 v (grpTo l i).out vs ∧ (grpTo l i).out.length ≤ i ∧
    MapN encN wr w.heap.size (grpTo l i).at_ ∧ Hid (∀ j, j < i → grpBad l j = 0) ∧ Below w.heap.size w wr ∧ w.heap.size + 1 ≤ wr.heap.size) (fun _ s14 _ => l.length - (intOf s14).toNat)
  case atStart => exact ⟨0, _, [], Nat.zero_le _, by go_num, rfl, NestT.nil _ _ _ _, Nat.zero_le _, hg0, fun j h => absurd h (by omega), hA, hsA⟩
  case round =>
    obtain ⟨i, v, vs, hi, rfl, rfl, hnest, hol, hmap, hall, hb, hsz⟩ := hrel
    clear hg0 hA hsA
    have hi1 : (0 : Int) ≤ (i : Int) := Int.natCast_nonneg _
    by_cases hlt : i < l.length
    · have hi2 : (i : Int) < (l.length : Int) := by omega
      obtain ⟨b, off, rfl, hbK, d0, d1, d2, d3⟩ := EvS.at_ (EvS.keep h (Agree.below hb fun b h => h) (fun b h => h)) hlt
      have hop := grpBad_at hlt
      have hnx := grpTo_step hlt
      have hbd := hide (fun hx => hbad.out i hlt hall.out hx)
      have hst : grpBad l i = 0 → ∀ j, j < i + 1 → grpBad l j = 0 := fun g j hj => by
        by_cases hji : j = i
        · subst hji; exact g
        · exact hall.out j (by omega)
      have hgl := hlen.out i
      have hol2 := hide (hopl.out i)
      generalize grpBad l i = ge at *
      generalize hGe : grpTo l (i + 1) = G2 at *
      replace hGe := hide hGe
      generalize grpTo l i = G at *
      generalize l[i] = e at *
      replace hnx := hide hnx
      replace hst := hide hst
      replace hgl := hide hgl
      have hbx : Below wr.heap.size wr (wr.alloc (.cells #[.int .i64 e.kind, .int .i64 e.sess, .int .i64 e.key, .int .i64 e.val] 56)) := (Below.refl _ _).alloc (Nat.le_refl _) _
      have kE : Blk (wr.alloc (.cells #[.int .i64 e.kind, .int .i64 e.sess, .int .i64 e.key, .int .i64 e.val] 56)) wr.heap.size 56 #[.int .i64 e.kind, .int .i64 e.sess, .int .i64 e.key, .int .i64 e.val] := Blk.new _ _ _
      go_wp2_with fail
      refine (right_any e _).mono ?_
      rintro e' w2 ⟨rfl, hb1⟩
      have hbw := hbx.trans (hb1.mono hbx.size)
      have kE2 := kE.below hb1 kE.lt
      have hvlt := hide hnest.lt
      replace hnest := hnest.below hbw (Nat.le_refl _)
      have hm2 := hmap.below hbw hmap.lt
      have hb2 := hb.trans (hbw.mono hb.size)
      have hsz2 : w.heap.size + 1 ≤ w2.heap.size := Nat.le_trans hsz hbw.size
      have hNs : wr.heap.size < w2.heap.size := kE2.lt
      have c0 := kE2.cell 0
      have c1 := kE2.cell 1
      have c2 := kE2.cell 2
      have c3 := kE2.cell 3
      simp only [List.getElem?_toArray, List.getElem?_cons_zero, List.getElem?_cons_succ] at c0 c1 c2 c3
      clear hb1 hbx hmap hb kE d0 d1 d2 d3 hall
      dsimp only
      cases hrt : e.right with
      | false =>
        have hop : ge = 1 := by rw [hop]; unfold Grp.bad; rw [if_pos hrt]
        clear hrt kE2 hbw
        have hr := hbd.out (by rw [hop]; decide)
        rw [hop] at hr
        replace hr := hide hr
        clear hop hbd hst hnx hnest hm2
        go_wp2
        go_ret3
        exact ⟨.slice none 0 0, by rw [hr.out]; rfl, by rw [hr.out]; exact SlR.nil _ _ _ _ _ _, hb2⟩
      | true =>
        have hkd := right_kind hrt
        have hlook := hm2.lookup Tryz.underlying3 Tryz.underlying74 zeroI5 e.sess
        by_cases hk0 : e.kind = 0
        · cases ha : G.at_ e.sess with
          | some k =>
            have hop : ge = 5 := by rw [hop]; unfold Grp.bad; rw [if_neg (by simp [hrt]), if_pos hk0, ha]; rfl
            rw [ha] at hlook
            replace hlook : (Instr.lookup 74 (.map (some w.heap.size)) (.int .i64 e.sess) true).run Tryz.prog w2 = .ok (.tuple #[.int .i64 (k : Int), .bool true]) w2 := hlook
            have hkb : (e.kind == 0) = true := by simpa using hk0
            clear hrt kE2 hbw ha hk0
            have hr := hbd.out (by rw [hop]; decide)
            rw [hop] at hr
            replace hr := hide hr
            clear hop hbd hst hnx hnest hm2
            go_wp2
            go_ret3
            exact ⟨.slice none 0 0, by rw [hr.out]; rfl, by rw [hr.out]; exact SlR.nil _ _ _ _ _ _, hb2⟩
          | none =>
            rw [ha] at hlook
            replace hlook : (Instr.lookup 74 (.map (some w.heap.size)) (.int .i64 e.sess) true).run Tryz.prog w2 = .ok (.tuple #[.int .i64 0, .bool false]) w2 := hlook
            have hkb : (e.kind == 0) = true := by simpa using hk0
            obtain ⟨Av, cv, rfl⟩ := hnest.form
            by_cases h32 : G.out.length = 32
            · have hop : ge = 4 := by rw [hop]; unfold Grp.bad; rw [if_neg (by simp [hrt]), if_pos hk0, ha, if_neg (by simp), if_pos h32]
              have h32b : ((G.out.length : Int) == 32) = true := by simpa using (by omega : (G.out.length : Int) = 32)
              have h32c : (G.out.length == 32) = true := by simpa using h32
              clear hrt kE2 hbw ha hk0 h32
              have hr := hbd.out (by rw [hop]; decide)
              rw [hop] at hr
              replace hr := hide hr
              clear hop hbd hst hnx hnest hm2
              go_wp2
              go_ret3
              exact ⟨.slice none 0 0, by rw [hr.out]; rfl, by rw [hr.out]; exact SlR.nil _ _ _ _ _ _, hb2⟩
            · have hop : ge = 0 := by rw [hop]; unfold Grp.bad; rw [if_neg (by simp [hrt]), if_pos hk0, ha, if_neg (by simp), if_neg h32]
              have hst2 := hide (hst.out hop)
              have hG2 := hide (show G2.out = G.out ++ [⟨e.sess, false, i, []⟩] from by rw [hnx.out]; unfold Grp.next; rw [if_pos hk0])
              have hG3 := hide (show ∀ s, (if s = e.sess then some G.out.length else G.at_ s) = G2.at_ s from fun s => by rw [hnx.out, Grp.at_begin hgl.out hk0 s])
              have h32b : ((G.out.length : Int) == 32) = false := by simpa using (by omega : ¬ (G.out.length : Int) = 32)
              have h32c : (G.out.length == 32) = false := by simpa using h32
              obtain ⟨es, cl, hupd, hm3⟩ := hm2.update Tryz.underlying3 Tryz.underlying74 e.sess G.out.length
              replace hupd : (Instr.mapUpdate 74 (.map (some w.heap.size)) (.int .i64 e.sess) (.int .i64 (G.out.length : Int))).run Tryz.prog w2 = .ok () (ChangeMaps.setBlock w2 w.heap.size (.map es cl)) := hupd
              have hm4 := hm3.same hG3.out
              have kE3 : Blk (ChangeMaps.setBlock w2 w.heap.size (.map es cl)) wr.heap.size 56 _ := setBlock_blk kE2 (show wr.heap.size ≠ w.heap.size by omega)
              have e0 := kE3.cell 0
              have e1 := kE3.cell 1
              simp only [List.getElem?_toArray, List.getElem?_cons_zero, List.getElem?_cons_succ] at e0 e1
              have hn3 := hnest.grown (setBlock_grown w2 w.heap.size (.map es cl)) (fun k e => by cases e; omega)
              have hb3 := setBlock_below hb2 (Nat.le_refl _) (.map es cl)
              have hs3 : w.heap.size + 1 ≤ (ChangeMaps.setBlock w2 w.heap.size (.map es cl)).heap.size := by rw [setBlock_size]; exact hsz2
              clear hop hst hnx hbd hrt ha hk0 h32 hm2 hm3 hnest hb2 kE2 kE3 hG3 hbw
              generalize ChangeMaps.setBlock w2 w.heap.size (.map es cl) = W3 at *
              have kT : Blk (W3.alloc (.cells #[.int .i64 e.sess, .bool false, .int .i64 i, .slice none 0 0] 49)) W3.heap.size 49 _ := Blk.new _ _ _
              have hn5 := hn3.alloc (.cells #[.int .i64 e.sess, .bool false, .int .i64 i, .slice none 0 0] 49)
              have hm5 : MapN encN (W3.alloc (.cells #[.int .i64 e.sess, .bool false, .int .i64 i, .slice none 0 0] 49)) w.heap.size G2.at_ := hm4.agree (Below.heap_alloc _ _ _ (by omega))
              have hb5 := hb3.alloc hb3.size (.cells #[.int .i64 e.sess, .bool false, .int .i64 i, .slice none 0 0] 49)
              have hs5 : w.heap.size + 1 ≤ (W3.alloc (.cells #[.int .i64 e.sess, .bool false, .int .i64 i, .slice none 0 0] 49)).heap.size := by simp; omega
              have hlt5 := hide hn5.lt
              clear hn3 hm4 hb3
              go_wp2_with (at_builtin; refine wpList_append_nest rfl (.tmp 69) (.tmp 74) 44 rfl (w.heap.size + 1) 49 56 ig _ 48 Tryz.underlying44 hig hig1 hig2 hig3 rfl (.slice Av G.out.length cv) G.out vs rfl hn5 ⟨e.sess, false, i, []⟩ rfl W3.heap.size rfl kT (by simp [maxLen]; omega) (by omega) hs5 ?_; intro v6 W6 hn6 hgrow6)
              go_roundw
              case rel =>
                have hg6 := hgrow6.size
                obtain rfl := hGe.out
                refine ⟨i + 1, v6, _, by omega, by go_num, rfl, by rw [hG2.out]; exact hn6, by rw [hG2.out]; simp; omega, hm5.agree (hgrow6.block _ (by omega) (fun e => by have := (hlt5.out _ e.symm).1; omega)), hst2, hb5.grown hgrow6 hb5.size (fun g hg => by have := (hlt5.out g hg).1; omega), by omega⟩
              case measure => simp [intOf]; omega
        · have hkb : (e.kind == 0) = false := by simpa using hk0
          cases ha : G.at_ e.sess with
          | none =>
            have hop : ge = 6 := by rw [hop]; unfold Grp.bad; rw [if_neg (by simp [hrt]), if_neg hk0, ha]; rfl
            rw [ha] at hlook
            replace hlook : (Instr.lookup 74 (.map (some w.heap.size)) (.int .i64 e.sess) true).run Tryz.prog w2 = .ok (.tuple #[.int .i64 0, .bool false]) w2 := hlook
            clear hrt kE2 hbw ha hk0
            have hr := hbd.out (by rw [hop]; decide)
            rw [hop] at hr
            replace hr := hide hr
            clear hop hbd hst hnx hnest hm2
            go_wp2
            go_ret3
            exact ⟨.slice none 0 0, by rw [hr.out]; rfl, by rw [hr.out]; exact SlR.nil _ _ _ _ _ _, hb2⟩
          | some k =>
            have hop : ge = 0 := by rw [hop]; unfold Grp.bad; rw [if_neg (by simp [hrt]), if_neg hk0, ha]; rfl
            have hst2 := hide (hst.out hop)
            rw [ha] at hlook
            replace hlook : (Instr.lookup 74 (.map (some w.heap.size)) (.int .i64 e.sess) true).run Tryz.prog w2 = .ok (.tuple #[.int .i64 (k : Int), .bool true]) w2 := hlook
            obtain ⟨q1, q2, q3, q4⟩ := Grp.at_lt ha
            obtain ⟨g, cap, rfl, hgB, hgs⟩ := hnest.head q1
            obtain ⟨vo, hvo⟩ := hnest.at_ q1
            have hLk : G.out[k]? = some G.out[k] := List.getElem?_eq_getElem q1
            have hk1 : (0 : Int) ≤ (k : Int) := Int.natCast_nonneg _
            have hk2 : (k : Int) < (G.out.length : Int) := by omega
            obtain ⟨x0, x1, x2, x3⟩ := hnest.cells hLk hvo
            have f1 := hnest.frozen (k * 4 + 1)
            have f3 := hnest.frozen (k * 4 + 3)
            by_cases h12 : e.kind = 1 ∨ e.kind = 2
            · have hG2 := hide (show G2.out = G.out.set k (addOp G.out[k] e) from by rw [hnx.out]; unfold Grp.next; rw [if_neg hk0, ha]; dsimp only; rw [if_pos h12, hLk]; rfl)
              have hG3 := hide (show ∀ s, G.at_ s = G2.at_ s from fun s => by rw [hnx.out, Grp.at_op h12 ha s])
              have hol3 := hol2.out _ (List.getElem_mem q1)
              have hk34 : (e.kind == 3) = false := by simpa using (show e.kind ≠ 3 by omega)
              have hk44 : (e.kind == 4) = false := by simpa using (show e.kind ≠ 4 by omega)
              have hne : vo.ownBlock ≠ some g := fun e => hnest.out k vo g hvo e rfl
              have hvol := hide (fun j (hj : vo.ownBlock = some j) => (hnest.ops k vo _ hvo hLk).lt j hj)
              have hnX := (hnest.alloc (.cells #[.int .i64 e.kind, .int .i64 e.sess, .int .i64 e.key, .int .i64 e.val] 56)).drew
              have hownX : ((w2.alloc (.cells #[.int .i64 e.kind, .int .i64 e.sess, .int .i64 e.key, .int .i64 e.val] 56)).drew).ownsRow (w.heap.size + 1) 56 4 vo G.out[k].ops.length (G.out[k].ops.map Ev.enc).flatten := hnX.ops k vo _ hvo hLk
              have kN := hide (show SlR 4 (Flat Ev.enc) ((w2.alloc (.cells #[.int .i64 e.kind, .int .i64 e.sess, .int .i64 e.key, .int .i64 e.val] 56)).drew) (fun _ => True) (.slice (some ⟨w2.heap.size, 0, none⟩) 1 1) [e] from SlR.one (R := Flat Ev.enc) (size := 4) (K := fun _ => True) (x := e) (w := ((w2.alloc (.cells #[.int .i64 e.kind, .int .i64 e.sess, .int .i64 e.key, .int .i64 e.val] 56)).drew)) (Blk.new w2 56 #[.int .i64 e.kind, .int .i64 e.sess, .int .i64 e.key, .int .i64 e.val]) rfl rfl trivial)
              have hmX : MapN encN ((w2.alloc (.cells #[.int .i64 e.kind, .int .i64 e.sess, .int .i64 e.key, .int .i64 e.val] 56)).drew) w.heap.size G2.at_ := (hm2.agree (Below.heap_alloc w2 (.cells #[.int .i64 e.kind, .int .i64 e.sess, .int .i64 e.key, .int .i64 e.val] 56) _ (by omega))).same hG3.out
              have hbX : Below w.heap.size w ((w2.alloc (.cells #[.int .i64 e.kind, .int .i64 e.sess, .int .i64 e.key, .int .i64 e.val] 56)).drew) := (hb2.alloc hb2.size _).drew
              have z3 : ((w2.alloc (.cells #[.int .i64 e.kind, .int .i64 e.sess, .int .i64 e.key, .int .i64 e.val] 56)).drew).cell? ⟨g, k * 4 + 3, none⟩ = some vo := (World.cell?_of_block (Below.heap_alloc w2 (.cells #[.int .i64 e.kind, .int .i64 e.sess, .int .i64 e.key, .int .i64 e.val] 56) g hgs)).trans x3
              have zf : ((w2.alloc (.cells #[.int .i64 e.kind, .int .i64 e.sess, .int .i64 e.key, .int .i64 e.val] 56)).drew).frozen? ⟨g, k * 4 + 3, none⟩ = false := (World.frozen?_of_block (Below.heap_alloc w2 (.cells #[.int .i64 e.kind, .int .i64 e.sess, .int .i64 e.key, .int .i64 e.val] 56) g hgs)).trans f3
              obtain ⟨Ao, co, rfl⟩ := own_slice (hnest.ops k vo _ hvo hLk)
              have hL2 : Hid ((G.out.set k (addOp G.out[k] e)).length = G.out.length) := List.length_set
              have hsX : w.heap.size + 1 ≤ ((w2.alloc (.cells #[.int .i64 e.kind, .int .i64 e.sess, .int .i64 e.key, .int .i64 e.val] 56)).drew).heap.size := by simp; omega
              have hgX : g < ((w2.alloc (.cells #[.int .i64 e.kind, .int .i64 e.sess, .int .i64 e.key, .int .i64 e.val] 56)).drew).heap.size := by simp; omega
              generalize hT : G.out[k] = T5 at *
              replace hLk := hide hLk
              replace hvo := hide hvo
              replace hnX := hide hnX
              clear hT hop hst hnx hbd hrt ha hk0 h12 hm2 hnest hb2 hbw q3 q4 hG3 kE2
              go_wp2_with fail
              refine wp_region_plan [0, 1, 2, 3, 4, 5, 6, 7] [8, 9, 10, 11, 12] (by kernel_rfl) (by kernel_rfl) (fun _ _ d _ _ h => by cases d <;> exact h) ?_
              simp only [List.filterMap_cons, List.filterMap_nil, List.getElem?_cons_zero, List.getElem?_cons_succ]
              repeat still_step
              refine wpStill_nil ?_
              clear x0 x1 x2 x3 f1 f3 c0 c1 c2 c3
              refine wpList_plain rfl (fun K hK => ?_)
              go_simp
              refine hK _ _ ?_
              clear hK K
              refine wpList_append_flat (enc := Ev.enc) rfl (.tmp 36) (.tmp 38) 41 rfl (w.heap.size + 1) 56 ie _ 4 32 Tryz.underlying41 hie hie1 hie2 hie3 rfl (by decide) (.slice Ao T5.ops.length co) (fun _ => True) T5.ops rfl hownX (fun _ => rfl) _ [e] rfl kN.out encE5 (by simp [maxLen]; omega) (by simp; omega) hsX ?_
              intro v6 W6 hown6 hgrow6 hat6
              obtain ⟨A6, c6, rfl⟩ := own_slice hown6
              have tc := hgrow6.cell z3 (fun e => hne e.symm)
              have tf := (World.frozen?_of_block (a := ⟨g, k * 4 + 3, none⟩) (hgrow6.block g hgX (fun e => hne e.symm))).trans zf
              have hn6 := hnX.out.addOp hLk.out hvo.out hown6 hgrow6 hat6
              have hg6 := hgrow6.size
              go_wp2
              go_roundw
              case rel =>
                obtain rfl := hGe.out
                rw [show (T5.ops ++ [e]).length = T5.ops.length + 1 by simp] at hn6
                refine ⟨i + 1, _, _, by omega, by go_num, rfl, by rw [hG2.out]; exact hn6, by rw [hG2.out, hL2.out]; omega, ?_, hst2, ?_, by rw [World.size_setCell]; omega⟩
                · refine (hmX.agree (hgrow6.block _ (by omega) (fun e => by have := (hvol.out _ e.symm).1; omega))).agree (Below.heap_setCell _ _ _ _ (by simp; omega))
                · exact (hbX.grown hgrow6 hbX.size (fun j hj => by have := (hvol.out j hj).1; omega)).setCell (p := ⟨g, k * 4 + 3, none⟩) (by simp; omega) _
              case measure => simp [intOf]; omega
            · by_cases h34 : e.kind = 3
              · have hk3 : (e.kind == 3) = true := by simpa using h34
                have hG2 := hide (show G2.out = G.out.set k (shutT G.out[k] true) from by rw [hnx.out]; unfold Grp.next; rw [if_neg hk0, ha]; dsimp only; rw [if_neg h12, hLk]; simp [h34])
                have hG3 := hide (show ∀ s, (if s = e.sess then none else G.at_ s) = G2.at_ s from fun s => by rw [hnx.out, Grp.at_shut hk0 h12 ha s])
                have hgN : g < wr.heap.size := (hvlt.out g rfl).2
                have hn3 := hnest.shut hLk true
                have hm3 : MapN encN (w2.setCell ⟨g, k * 4 + 1, none⟩ (.bool true)) w.heap.size G.at_ := hm2.agree (Below.heap_setCell _ _ _ _ (by simp; omega))
                obtain ⟨es, cl, hrun, hm4⟩ := hm3.delete Tryz.underlying3 Tryz.underlying74 0 e.sess
                have hm5 := hm4.same hG3.out
                have kE3 := kE2.far (p := ⟨g, k * 4 + 1, none⟩) (by simp; omega) (.bool true)
                have e1 := kE3.cell 1
                simp only [List.getElem?_toArray, List.getElem?_cons_zero, List.getElem?_cons_succ] at e1
                have hn4 := hn3.grown (setBlock_grown (w2.setCell ⟨g, k * 4 + 1, none⟩ (.bool true)) w.heap.size (.map es cl)) (fun k e => by cases e; omega)
                have hb4 := setBlock_below (hb2.setCell (p := ⟨g, k * 4 + 1, none⟩) (by simp; omega) (.bool true)) (Nat.le_refl _) (.map es cl)
                have hs4 : w.heap.size + 1 ≤ (ChangeMaps.setBlock (w2.setCell ⟨g, k * 4 + 1, none⟩ (.bool true)) w.heap.size (.map es cl)).heap.size := by rw [setBlock_size, World.size_setCell]; exact hsz2
                have hL2 : Hid ((G.out.set k (shutT G.out[k] true)).length = G.out.length) := List.length_set
                clear hop hst hnx hbd hrt ha hk0 h12 hm2 hm3 hm4 hn3 hnest hb2 kE2 kE3 hG3 hbw q3 q4 hvo hLk h34
                go_wp2_with (with_reducible refine wpList_deleteN rfl (.tmp 94) (.tmp 96) 74 3 rfl _ (.map (some w.heap.size)) (.int .i64 e.sess) rfl rfl hrun ?_)
                go_roundw
                case rel =>
                  obtain rfl := hGe.out
                  exact ⟨i + 1, _, vs, by omega, by go_num, rfl, by rw [hG2.out]; exact hn4, by rw [hG2.out, hL2.out]; omega, hm5, hst2, hb4, hs4⟩
                case measure => simp [intOf]; omega
              · have hk3 : (e.kind == 3) = false := by simpa using h34
                have hk4 : (e.kind == 4) = true := by simpa using (show e.kind = 4 by omega)
                have hG2 := hide (show G2.out = G.out.set k (shutT G.out[k] false) from by rw [hnx.out]; unfold Grp.next; rw [if_neg hk0, ha]; dsimp only; rw [if_neg h12, hLk]; simp [h34])
                have hG3 := hide (show ∀ s, (if s = e.sess then none else G.at_ s) = G2.at_ s from fun s => by rw [hnx.out, Grp.at_shut hk0 h12 ha s])
                have hgN : g < wr.heap.size := (hvlt.out g rfl).2
                have hn3 := hnest.shut hLk false
                have hm3 : MapN encN (w2.setCell ⟨g, k * 4 + 1, none⟩ (.bool false)) w.heap.size G.at_ := hm2.agree (Below.heap_setCell _ _ _ _ (by simp; omega))
                obtain ⟨es, cl, hrun, hm4⟩ := hm3.delete Tryz.underlying3 Tryz.underlying74 0 e.sess
                have hm5 := hm4.same hG3.out
                have kE3 := kE2.far (p := ⟨g, k * 4 + 1, none⟩) (by simp; omega) (.bool false)
                have e1 := kE3.cell 1
                simp only [List.getElem?_toArray, List.getElem?_cons_zero, List.getElem?_cons_succ] at e1
                have hn4 := hn3.grown (setBlock_grown (w2.setCell ⟨g, k * 4 + 1, none⟩ (.bool false)) w.heap.size (.map es cl)) (fun k e => by cases e; omega)
                have hb4 := setBlock_below (hb2.setCell (p := ⟨g, k * 4 + 1, none⟩) (by simp; omega) (.bool false)) (Nat.le_refl _) (.map es cl)
                have hs4 : w.heap.size + 1 ≤ (ChangeMaps.setBlock (w2.setCell ⟨g, k * 4 + 1, none⟩ (.bool false)) w.heap.size (.map es cl)).heap.size := by rw [setBlock_size, World.size_setCell]; exact hsz2
                have hL2 : Hid ((G.out.set k (shutT G.out[k] false)).length = G.out.length) := List.length_set
                clear hop hst hnx hbd hrt ha hk0 h12 hm2 hm3 hm4 hn3 hnest hb2 kE2 kE3 hG3 hbw q3 q4 hvo hLk h34
                go_wp2_with (with_reducible refine wpList_deleteN rfl (.tmp 94) (.tmp 96) 74 3 rfl _ (.map (some w.heap.size)) (.int .i64 e.sess) rfl rfl hrun ?_)
                go_roundw
                case rel =>
                  obtain rfl := hGe.out
                  exact ⟨i + 1, _, vs, by omega, by go_num, rfl, by rw [hG2.out]; exact hn4, by rw [hG2.out, hL2.out]; omega, hm5, hst2, hb4, hs4⟩
                case measure => simp [intOf]; omega
    · have : i = l.length := by omega
      subst this
      have hr := hide (hgood.out hall.out)
      have hS := hnest.txs
      generalize (grpTo l l.length).out = LO at *
      go_wp2
      go_ret3
      exact ⟨v, by rw [hr.out]; rfl, by rw [hr.out]; exact TxS.fit hS (fun b h => ⟨by omega, h.2⟩), hb⟩
end Go.Proofs.YtphcebgpllecjaaGreatDoor
