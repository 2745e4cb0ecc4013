/-
  Walks: the reference of layer 6: Look.
-/
import Derived.Test.YtapkbinlhmddiaaRef06
import Derived.Test.YtapkbinlhmddiaaPlan
set_option linter.unusedVariables false
set_option linter.unusedSimpArgs false
namespace Go.Proofs.Ytapkbinlhmddiaa
open Go.RowKit Go.Inq
set_option maxHeartbeats 1000000
attribute [local go_sem ↓] Go.wp_at_zero Go.wp_at_succ
theorem rinfo : (Try.prog.info? 86).map (fun i => (i.zero, i.size, i.bytes)) = some (some (.agg #[.int .i64 0, .int .i64 0]), 2, 16) := by kernel_rfl

/-- The local 'out' at block N, the result's cell at gR: reads of the first n keys, writes of the first m. -/
def RL (l : List Ev) (N gR : Nat) (w w2 : World) (n m : Nat) : Prop :=
  ∃ rv wv, Blk w2 N 69 #[rv, wv] ∧ Blk w2 gR 69 #[.slice none 0 0, .slice none 0 0] ∧
    w2.ownsRow (N + 1) 86 2 rv (readsTo l n).length ((readsTo l n).map It.enc).flatten ∧ w2.ownsRow (N + 1) 86 2 wv (writesTo l m).length ((writesTo l m).map It.enc).flatten ∧
    (∀ g, rv.ownBlock = some g → wv.ownBlock ≠ some g) ∧ Below w.heap.size w w2

theorem RL_read {l : List Ev} {N gR n m : Nat} {w wr w1 : World} {rv wv : Value} {o : Obj} {gg cap : Nat} {x : It} (hN : N < wr.heap.size) (hg : gR < N) (hw : w.heap.size ≤ gR)
    (hBo : Blk wr N 69 #[rv, wv]) (hBr : Blk wr gR 69 #[.slice none 0 0, .slice none 0 0])
    (hown : wr.ownsRow (N + 1) 86 2 rv (readsTo l n).length ((readsTo l n).map It.enc).flatten)
    (howw : wr.ownsRow (N + 1) 86 2 wv (writesTo l m).length ((writesTo l m).map It.enc).flatten)
    (hdis : ∀ g, rv.ownBlock = some g → wv.ownBlock ≠ some g) (hb : Below w.heap.size w wr)
    (hgrow : (wr.alloc o).drew.grownBy w1 rv.ownBlock) (hx : readOf l n = some x)
    (hown1 : w1.ownsRow (N + 1) 86 2 (.slice (some ⟨gg, 0, none⟩) ((readsTo l n).length + 1) cap) ((readsTo l n).length + 1) (((readsTo l n).map It.enc).flatten ++ x.enc))
    (hat : rv.ownBlock = some gg ∨ gg = wr.heap.size + 1) :
    RL l N gR w (w1.setCell ⟨N, 0, none⟩ (.slice (some ⟨gg, 0, none⟩) ((readsTo l n).length + 1) cap)) (n + 1) m := by
  have hlt : ∀ g, rv.ownBlock = some g → N + 1 ≤ g := fun g hg => (hown.lt g hg).1
  have hltw : ∀ g, wv.ownBlock = some g → N + 1 ≤ g ∧ g < wr.heap.size := fun g hg => howw.lt g hg
  have hgg : N + 1 ≤ gg := (hown1.lt gg rfl).1
  have hne : ∀ k : Nat, k < N + 1 → some k ≠ rv.ownBlock := fun k hk e => by have := hlt _ e.symm; omega
  have hsz : (wr.alloc o).drew.heap.size = wr.heap.size + 1 := by simp
  have e1 : readsTo l (n + 1) = readsTo l n ++ [x] := by rw [readsTo_succ, hx]; rfl
  have howw1 : w1.ownsRow (N + 1) 86 2 wv (writesTo l m).length ((writesTo l m).map It.enc).flatten := by
    refine (howw.alloc o).drew.kept hgrow ?_
    cases hv : wv.ownBlock with
    | none => exact .inl rfl
    | some g => exact .inr fun e => hdis g e.symm hv
  refine ⟨.slice (some ⟨gg, 0, none⟩) ((readsTo l n).length + 1) cap, wv, ?_, (((hBr.alloc o).drew.grown hgrow (hne gR (by omega))).far (p := ⟨N, 0, none⟩) (by simp; omega) _), ?_, own_setCell howw1 (fun e => by have := (hltw _ e).1; simp at this; omega) _, ?_, ?_⟩
  · exact ((hBo.alloc o).drew.grown hgrow (hne N (by omega))).set_ 0 _
  · rw [e1, List.length_append, flat_snoc]
    exact own_setCell hown1 (fun e => by simp [Value.ownBlock] at e; omega) _
  · intro g hg hw2
    simp [Value.ownBlock] at hg
    subst hg
    rcases hat with h | h
    · exact hdis gg h hw2
    · have := (hltw _ hw2).2; omega
  · exact ((hb.alloc (o := o) (by omega)).drew.grown hgrow (by omega) (fun k hk => by have := hlt k hk; omega)).setCell (by simp; omega) _

theorem RL_write {l : List Ev} {N gR n m : Nat} {w wr w1 : World} {rv wv : Value} {o : Obj} {gg cap : Nat} {x : It} (hN : N < wr.heap.size) (hg : gR < N) (hw : w.heap.size ≤ gR)
    (hBo : Blk wr N 69 #[rv, wv]) (hBr : Blk wr gR 69 #[.slice none 0 0, .slice none 0 0])
    (hown : wr.ownsRow (N + 1) 86 2 rv (readsTo l n).length ((readsTo l n).map It.enc).flatten)
    (howw : wr.ownsRow (N + 1) 86 2 wv (writesTo l m).length ((writesTo l m).map It.enc).flatten)
    (hdis : ∀ g, rv.ownBlock = some g → wv.ownBlock ≠ some g) (hb : Below w.heap.size w wr)
    (hgrow : (wr.alloc o).drew.grownBy w1 wv.ownBlock) (hx : writeOf l m = some x)
    (hown1 : w1.ownsRow (N + 1) 86 2 (.slice (some ⟨gg, 0, none⟩) ((writesTo l m).length + 1) cap) ((writesTo l m).length + 1) (((writesTo l m).map It.enc).flatten ++ x.enc))
    (hat : wv.ownBlock = some gg ∨ gg = wr.heap.size + 1) :
    RL l N gR w (w1.setCell ⟨N, 1, none⟩ (.slice (some ⟨gg, 0, none⟩) ((writesTo l m).length + 1) cap)) n (m + 1) := by
  have hlt : ∀ g, wv.ownBlock = some g → N + 1 ≤ g := fun g hg => (howw.lt g hg).1
  have hltw : ∀ g, rv.ownBlock = some g → N + 1 ≤ g ∧ g < wr.heap.size := fun g hg => hown.lt g hg
  have hgg : N + 1 ≤ gg := (hown1.lt gg rfl).1
  have hne : ∀ k : Nat, k < N + 1 → some k ≠ wv.ownBlock := fun k hk e => by have := hlt _ e.symm; omega
  have hsz : (wr.alloc o).drew.heap.size = wr.heap.size + 1 := by simp
  have e1 : writesTo l (m + 1) = writesTo l m ++ [x] := by rw [writesTo_succ, hx]; rfl
  have howw1 : w1.ownsRow (N + 1) 86 2 rv (readsTo l n).length ((readsTo l n).map It.enc).flatten := by
    refine (hown.alloc o).drew.kept hgrow ?_
    cases hv : rv.ownBlock with
    | none => exact .inl rfl
    | some g => exact .inr fun e => hdis g hv e.symm
  refine ⟨rv, .slice (some ⟨gg, 0, none⟩) ((writesTo l m).length + 1) cap, ?_, (((hBr.alloc o).drew.grown hgrow (hne gR (by omega))).far (p := ⟨N, 1, none⟩) (by simp; omega) _), own_setCell howw1 (fun e => by have := (hltw _ e).1; simp at this; omega) _, ?_, ?_, ?_⟩
  · exact ((hBo.alloc o).drew.grown hgrow (hne N (by omega))).set_ 1 _
  · rw [e1, List.length_append, flat_snoc]
    exact own_setCell hown1 (fun e => by simp [Value.ownBlock] at e; omega) _
  · intro g hg hw2
    simp [Value.ownBlock] at hw2
    subst hw2
    rcases hat with h | h
    · exact hdis gg hg h
    · have := (hltw _ hg).2; omega
  · exact ((hb.alloc (o := o) (by omega)).drew.grown hgrow (by omega) (fun k hk => by have := hlt k hk; omega)).setCell (by simp; omega) _

set_option maxRecDepth 100000 in
theorem rlook_any (A : Option Addr) (c : Nat) (l : List Ev) (w : World) (h : EvS w (Old w) (.slice A l.length c) l) (hn : l.length ≤ 1000000) :
    Calls Try.prog 20 #[.slice A l.length c] w fun e w' => ∃ rv wv, e = .returned (.tuple #[.agg #[rv, wv], .int .i64 (lookR l).at_, .int .i64 (lookR l).err]) ∧
      ItS w' (fun b => w.heap.size ≤ b ∧ b < w'.heap.size) rv (lookR l).reads ∧ ItS w' (fun b => w.heap.size ≤ b ∧ b < w'.heap.size) wv (lookR l).writes ∧ Below w.heap.size w w' := by
  obtain ⟨i0, hi0, hz0, hz1, hz2⟩ := info_parts rinfo
  go_enter Try.func20, Try.ntmps20
  go_wp2
  go_loopw [5, 6] (fun i _ wr => ∃ k : Nat, k ≤ l.length ∧ i = .int .i64 k ∧ (∀ j, j < k → wrongAt l j = 0) ∧ Below w.heap.size w wr ∧ Blk wr w.heap.size 69 #[.slice none 0 0, .slice none 0 0]) (fun i _ _ => l.length - (intOf i).toNat)
  case atStart => exact ⟨0, Nat.zero_le _, by go_num, fun j hj => absurd hj (by omega), (Below.refl _ _).alloc (Nat.le_refl _) _, Blk.new _ _ _⟩
  case round =>
    obtain ⟨k, hk, rfl, hall, hb, hB⟩ := hrel
    have HA := hide hall
    clear hall
    by_cases hlt : k < l.length
    · have hwr : EvS wr (Old wr) (.slice A l.length c) l := EvS.below h hb
      have c0 := hB.cell 0
      have c1 := hB.cell 1
      have f0 := hB.frozen 0
      have f1 := hB.frozen 1
      simp at c0 c1
      go_wp2_with fail
      refine (wrong_any A c l k wr hwr hlt hn).mono ?_
      rintro e w1 ⟨rfl, hb1⟩
      have hbx : Below w.heap.size w w1 := hb.trans (hb1.mono hb.size)
      have hBx : Blk w1 w.heap.size 69 #[.slice none 0 0, .slice none 0 0] := hB.below hb1 hB.lt
      have hw : Hid (wrongAt l k = wrongE l k l[k]) := by unfold Hid wrongAt; rw [List.getElem?_eq_getElem hlt]
      clear c0 c1 f0 f1
      have c0 := hBx.cell 0
      have c1 := hBx.cell 1
      have f0 := hBx.frozen 0
      have f1 := hBx.frozen 1
      simp at c0 c1
      generalize wrongE l k l[k] = x at *
      by_cases hx : x = 0
      · subst hx
        go_wp2
        go_roundw
        case rel => exact ⟨k + 1, by omega, by go_num, fun j hj => (by
            by_cases hjk : j = k
            · subst hjk; exact hw.out
            · exact HA.out j (by omega)), hbx, hBx⟩
        case measure => simp [intOf]; omega
      · go_wp2
        refine bodyPost_ret (v := .tuple #[.agg #[.slice none 0 0, .slice none 0 0], .int .i64 k, .int .i64 x]) (by simp [results, Try.results20, go_sem, c0, c1]) rfl ?_
        have e : lookR l = ⟨[], [], k, x⟩ := by unfold lookR; rw [firstBad_some hlt HA.out (by rw [hw.out]; exact hx)]; simp [hw.out]
        rw [e]
        exact ⟨_, _, rfl, SlR.nil _ _ _ _ _ _, SlR.nil _ _ _ _ _ _, (hbx.setCell (Nat.le_refl _) _).setCell (Nat.le_refl _) _⟩
    · have : k = l.length := by omega
      subst this
      have hz : w.heap.size < wr.heap.size := hB.lt
      have HE : Hid (lookR l = ⟨readsTo l 16, writesTo l 16, 0, 0⟩) := by unfold Hid lookR; rw [firstBad_none HA.out]
      clear HA
      have hR : RL l wr.heap.size w.heap.size w (wr.alloc (.cells #[.slice none 0 0, .slice none 0 0] 69)) 0 0 :=
        ⟨_, _, Blk.new _ _ _, hB.alloc _, World.ownsRow_nil _ _ _ _, World.ownsRow_nil _ _ _ _, fun g hg => by simp [Value.ownBlock] at hg, hb.alloc hb.size _⟩
      clear hB
      generalize hW : wr.alloc (.cells #[.slice none 0 0, .slice none 0 0] 69) = W at *
      go_wp2
      generalize wr.heap.size = N at *
      clear hW hlt hb
      clear wr
      go_loopg [8, 9, 10, 11] 16 (fun gk s8 _ _ _ wx => ∃ n : Nat, n + gk = 16 ∧ s8 = .int .i64 n ∧ RL l N w.heap.size w wx n n)
      case atStart => exact ⟨0, by omega, by go_num, hR⟩
      case round =>
        clear hR
        obtain ⟨n, hng, rfl, hR⟩ := hrel
        have hRb : Below w.heap.size w wr := hR.choose_spec.choose_spec.2.2.2.2.2
        by_cases hlt : n < 16
        · have hd : decide ((n : Int) < 16) = true := by simp; omega
          have hwx : EvS wr (Old w) (.slice A l.length c) l := EvS.keep h (Agree.below hRb fun _ hh => hh) fun _ hh => hh
          go_wp2
          go_loop [9, 10] (fun f s => ∃ k : Nat, k ≤ l.length ∧ s = .int .i64 ((k : Int) - 1) ∧ f = .int .i64 (firstD l n k)) (fun _ s => (intOf s + 1).toNat)
          case atStart => exact ⟨l.length, Nat.le_refl _, rfl, by rw [firstD_end]⟩
          case round =>
            obtain ⟨k, hk, rfl, rfl⟩ := hrel
            cases k with
            | succ m =>
              have e0 : ((m + 1 : Nat) : Int) - 1 = (m : Int) := by omega
              rw [e0]
              clear e0
              obtain ⟨b, off, rfl, _, c0, c1, c2, c3⟩ := EvS.at_ hwx (i := m) (by omega)
              have hst := hide (firstD_step (key := (n : Int)) (List.getElem?_eq_getElem (show m < l.length by omega)))
              generalize l[m] = x at *
              by_cases hx : x.key = n
              · have hx' : (x.key == (n : Int)) = true := by simp [hx]
                clear hx
                go_wp2
                go_round
                case rel => exact ⟨m, by omega, rfl, by rw [hst.out, if_pos (eq_of_beq hx')]⟩
                case measure => simp [intOf]
              · have hx' : (x.key == (n : Int)) = false := by simp [hx]
                go_wp2
                go_round
                case rel => exact ⟨m, by omega, rfl, by rw [hst.out, if_neg hx]⟩
                case measure => simp [intOf]
            | zero =>
              have hf := firstD_lt l n
              have hro : Hid (readOf l n = if 0 ≤ firstD l n 0 ∧ kindAt l (firstD l n 0) = 1 then some ⟨n, valAt l (firstD l n 0)⟩ else none) := rfl
              generalize firstD l n 0 = f at *
              go_upto_region 17 with fail
              go_cut [54] (fun s54 wx => ∃ bb : Bool, s54 = .bool bb ∧ Hid (bb = decide (0 ≤ f ∧ kindAt l f = 1)) ∧ wr = wx)
              case first =>
                by_cases h0 : 0 ≤ f
                · obtain ⟨m, rfl⟩ := Int.eq_ofNat_of_zero_le h0
                  obtain ⟨b, off, rfl, _, c0, c1, c2, c3⟩ := EvS.at_ hwx (i := m) (by omega)
                  have hka : Hid (kindAt l m = l[m].kind) := by unfold Hid kindAt; rw [Int.toNat_natCast, List.getElem?_eq_getElem (by omega)]; rfl
                  generalize l[m] = x at *
                  go_wp2
                  go_meet
                  exact ⟨_, rfl, by unfold Hid; rw [hka.out]; simp; rfl, rfl⟩
                · have h0' : decide (0 ≤ f) = false := by simp; omega
                  go_wp2
                  go_meet
                  exact ⟨_, rfl, by unfold Hid; simp; intro; omega, rfl⟩
              case rest =>
                obtain ⟨bb, rfl, hbb, rfl⟩ := hcut
                go_upto_if 54 with fail
                go_cut [] (fun wx => RL l N w.heap.size w wx (n + 1) n)
                case first =>
                  by_cases hr : 0 ≤ f ∧ kindAt l f = 1
                  · obtain rfl : bb = true := by rw [hbb.out]; simpa using hr
                    clear hbb
                    have hro' : Hid (readOf l n = some ⟨n, valAt l f⟩) := by unfold Hid; rw [hro.out, if_pos hr]
                    obtain ⟨m, rfl⟩ := Int.eq_ofNat_of_zero_le hr.1
                    clear hr
                    have hm : m < l.length := by omega
                    obtain ⟨b, off, rfl, hbK, c0, c1, c2, c3⟩ := EvS.at_ hwx (i := m) hm
                    have hva : Hid (valAt l m = l[m].val) := by unfold Hid valAt; rw [Int.toNat_natCast, List.getElem?_eq_getElem hm]; rfl
                    generalize l[m] = x at *
                    obtain ⟨rv, wv, hBo, hBr, hown, howw, hdis, hbw⟩ := hR
                    have d0 := hBo.cell 0
                    have d1 := hBo.cell 1
                    have f0 := hBo.frozen 0
                    have hNz := hBo.lt
                    have hlen := readsTo_len l n
                    simp at d0 d1
                    have hi1 : (0 : Int) ≤ (m : Int) := Int.natCast_nonneg _
                    have hi2 : (m : Int) < (l.length : Int) := by omega
                    have hbK2 : b < w.heap.size := hbK
                    go_wp2
                    refine wp_region_plan [0, 1, 2, 3, 4, 5, 6, 7, 8] [9, 10, 11, 12] (by kernel_rfl) (by kernel_rfl) (fun _ _ d _ _ h => by cases d <;> exact h) ?_
                    simp only [List.filterMap_cons, List.filterMap_nil, List.getElem?_cons_zero, List.getElem?_cons_succ]
                    repeat still_step
                    refine wpStill_nil ?_
                    refine wpList_plain rfl (fun K hK => ?_)
                    go_simp
                    refine hK _ _ ?_
                    clear hK K
                    refine wpList_append_lies _ (by rfl) _ _ _ (by rfl) (N + 1) 86 i0 _ 2 16 Try.underlying67 hi0 hz0 hz1 hz2 (by rfl) (by omega) rv _ _ (by rfl) ((hown.alloc _).drew) ⟨wr.heap.size, 0, none⟩ 1 1 [.int .i64 n, .int .i64 x.val] (by rfl) (by rfl) (World.news_of_block (cs := #[.int .i64 n, .int .i64 x.val]) (t := 86) (fr := (0, 0)) (heap_alloc_new _ _)) (by simp [Value.oneCell']) (by omega) (by simp [maxLen]; omega) (by omega) (by simp; omega) (wr.heap.size + 1) (by simp) ?_
                    intro gg cap w1 hown1 hgrow hat hlt
                    have hfin := hide (RL_read (x := ⟨n, x.val⟩) hNz hz (Nat.le_refl _) hBo hBr hown howw hdis hbw hgrow (by rw [hro'.out, hva.out]) hown1 hat)
                    have e0 : w1.cell? ⟨N, 0, none⟩ = some rv := (hgrow.cell_far ⟨N, 0, none⟩ (by simp; omega) (fun e => by have := (hown.lt _ e.symm).1; simp at this; omega)).trans (by simp [d0, World.cell?_alloc_some])
                    have g0 : w1.frozen? ⟨N, 0, none⟩ = false := (hgrow.frozen_far ⟨N, 0, none⟩ (by simp; omega) (fun e => by have := (hown.lt _ e.symm).1; simp at this; omega)).trans (by simp [f0, frozen?_alloc_cells])
                    clear hown1 hgrow hat hown howw hdis hBo hBr hbw d0 d1 f0
                    go_wp2
                    go_meet
                    exact hfin.out
                  · obtain rfl : bb = false := by rw [hbb.out]; simpa using hr
                    clear hbb
                    have hro' : readOf l n = none := by rw [hro.out, if_neg hr]
                    have hR' : RL l N w.heap.size w wr (n + 1) n := by unfold RL at *; rw [readsTo_succ, hro']; simpa using hR
                    clear hro' hR
                    go_wp2
                    go_meet
                    exact hR'
                case rest =>
                  have hRb2 : Below w.heap.size w wc := hcut.choose_spec.choose_spec.2.2.2.2.2
                  have hwc : EvS wc (Old w) (.slice A l.length c) l := EvS.keep h (Agree.below hRb2 fun _ hh => hh) fun _ hh => hh
                  go_wp2_with fail
                  refine (ahead_any A c l l.length 2 n wc hwc (by omega) (by omega) hn).mono ?_
                  rintro e w2 ⟨rfl, rfl⟩
                  rw [Int.toNat_natCast]
                  have hf2 := aheadN_lt l 2 n l.length
                  have hwo : Hid (writeOf l n = if 0 ≤ aheadN l 2 n l.length then some ⟨n, valAt l (aheadN l 2 n l.length)⟩ else none) := rfl
                  generalize aheadN l 2 n l.length = f2 at *
                  by_cases h0 : 0 ≤ f2
                  · obtain ⟨m, rfl⟩ := Int.eq_ofNat_of_zero_le h0
                    have hwo' : Hid (writeOf l n = some ⟨n, valAt l m⟩) := by unfold Hid; rw [hwo.out, if_pos h0]
                    have hm : m < l.length := by omega
                    obtain ⟨b, off, rfl, hbK, c0, c1, c2, c3⟩ := EvS.at_ hwc (i := m) hm
                    have hva : Hid (valAt l m = l[m].val) := by unfold Hid valAt; rw [Int.toNat_natCast, List.getElem?_eq_getElem hm]; rfl
                    generalize l[m] = x at *
                    obtain ⟨rv, wv, hBo, hBr, hown, howw, hdis, hbw⟩ := hcut
                    have d0 := hBo.cell 0
                    have d1 := hBo.cell 1
                    have f1 := hBo.frozen 1
                    have hNz := hBo.lt
                    have hlen := writesTo_len l n
                    simp at d0 d1
                    have hi1 : (0 : Int) ≤ (m : Int) := Int.natCast_nonneg _
                    have hi2 : (m : Int) < (l.length : Int) := by omega
                    have hbK2 : b < w.heap.size := hbK
                    go_wp2
                    refine wp_region_plan [0, 1, 2, 3, 4, 5, 6, 7, 8] [9, 10, 11, 12] (by kernel_rfl) (by kernel_rfl) (fun _ _ d _ _ h => by cases d <;> exact h) ?_
                    simp only [List.filterMap_cons, List.filterMap_nil, List.getElem?_cons_zero, List.getElem?_cons_succ]
                    repeat still_step
                    refine wpStill_nil ?_
                    refine wpList_plain rfl (fun K hK => ?_)
                    go_simp
                    refine hK _ _ ?_
                    clear hK K
                    refine wpList_append_lies _ (by rfl) _ _ _ (by rfl) (N + 1) 86 i0 _ 2 16 Try.underlying67 hi0 hz0 hz1 hz2 (by rfl) (by omega) wv _ _ (by rfl) ((howw.alloc _).drew) ⟨wc.heap.size, 0, none⟩ 1 1 [.int .i64 n, .int .i64 x.val] (by rfl) (by rfl) (World.news_of_block (cs := #[.int .i64 n, .int .i64 x.val]) (t := 86) (fr := (0, 0)) (heap_alloc_new _ _)) (by simp [Value.oneCell']) (by omega) (by simp [maxLen]; omega) (by omega) (by simp; omega) (wc.heap.size + 1) (by simp) ?_
                    intro gg cap w1 hown1 hgrow hat hlt
                    have hfin := hide (RL_write (x := ⟨n, x.val⟩) hNz hz (Nat.le_refl _) hBo hBr hown howw hdis hbw hgrow (by rw [hwo'.out, hva.out]) hown1 hat)
                    have e0 : w1.cell? ⟨N, 1, none⟩ = some wv := (hgrow.cell_far ⟨N, 1, none⟩ (by simp; omega) (fun e => by have := (howw.lt _ e.symm).1; simp at this; omega)).trans (by simp [d1, World.cell?_alloc_some])
                    have g0 : w1.frozen? ⟨N, 1, none⟩ = false := (hgrow.frozen_far ⟨N, 1, none⟩ (by simp; omega) (fun e => by have := (howw.lt _ e.symm).1; simp at this; omega)).trans (by simp [f1, frozen?_alloc_cells])
                    clear hown1 hgrow hat hown howw hdis hBo hBr hbw d0 d1 f1
                    go_wp2
                    go_roundg (15 - n)
                    case measure => omega
                    case rel => exact ⟨n + 1, by omega, by go_num, hfin.out⟩
                  · have hwo' : writeOf l n = none := by rw [hwo.out, if_neg (by omega)]
                    have hR' : RL l N w.heap.size w wc (n + 1) (n + 1) := by unfold RL at *; rw [writesTo_succ, hwo']; simpa using hcut
                    clear hwo' hcut
                    go_wp2
                    go_roundg (15 - n)
                    case measure => omega
                    case rel => exact ⟨n + 1, by omega, by go_num, hR'⟩
        · have : n = 16 := by omega
          subst this
          obtain ⟨rv, wv, hBo, hBr, hown, howw, hdis, hbw⟩ := hR
          have d0 := hBo.cell 0
          have d1 := hBo.cell 1
          have c0 := hBr.cell 0
          have c1 := hBr.cell 1
          have f0 := hBr.frozen 0
          have f1 := hBr.frozen 1
          have hNz := hBo.lt
          simp at d0 d1 c0 c1
          obtain ⟨A1, c1', rfl⟩ := own_slice hown
          obtain ⟨A2, c2', rfl⟩ := own_slice howw
          go_wp2
          refine bodyPost_ret (v := .tuple #[.agg #[.slice A1 (readsTo l 16).length c1', .slice A2 (writesTo l 16).length c2'], .int .i64 0, .int .i64 0]) (by simp [results, Try.results20, go_sem, c0, c1]) rfl ?_
          rw [HE.out]
          have hne : ∀ v : Value, (∀ g, v.ownBlock = some g → N + 1 ≤ g) → v.ownBlock ≠ some w.heap.size := fun v hv e => by have := hv _ e; omega
          have o1 := own_setCell (p := ⟨w.heap.size, 1, none⟩) (own_setCell (p := ⟨w.heap.size, 0, none⟩) hown (hne _ fun g hg => (hown.lt g hg).1) (.slice A1 (readsTo l 16).length c1')) (hne _ fun g hg => (hown.lt g hg).1) (.slice A2 (writesTo l 16).length c2')
          have o2 := own_setCell (p := ⟨w.heap.size, 1, none⟩) (own_setCell (p := ⟨w.heap.size, 0, none⟩) howw (hne _ fun g hg => (howw.lt g hg).1) (.slice A1 (readsTo l 16).length c1')) (hne _ fun g hg => (howw.lt g hg).1) (.slice A2 (writesTo l 16).length c2')
          exact ⟨_, _, rfl, SlR.of_flat o1 rfl (fun _ => rfl) (fun g h1 h2 => ⟨by omega, h2⟩), SlR.of_flat o2 rfl (fun _ => rfl) (fun g h1 h2 => ⟨by omega, h2⟩), (hbw.setCell (Nat.le_refl _) _).setCell (Nat.le_refl _) _⟩
end Go.Proofs.Ytapkbinlhmddiaa
