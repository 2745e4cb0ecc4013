/-
  Walks: layer 18's reference: the choices of an order.
-/
import Derived.Test.YtfodlklpfffaaaaGreatDoorC18
set_option linter.unusedVariables false
set_option linter.unusedSimpArgs false
namespace Go.Proofs.YtfodlklpfffaaaaGreatDoor
open Go.RowKit Go.Inq
set_option maxHeartbeats 8000000
attribute [local go_sem ↓] Go.wp_at_zero Go.wp_at_succ

theorem idxI_first {l : List Int} {x : Int} {k : Nat} (hk : k < l.length) (h0 : (l.take k).contains x = false) (h : l[k] = x) : idxI l x = k := by
  refine idxI_some ?_
  rw [List.idxOf?, List.findIdx?_eq_some_iff_getElem]
  refine ⟨hk, by simpa using h, fun j hj => ?_⟩
  rw [beq_iff_eq]
  intro e
  have : (l.take k).contains x = true := by
    rw [List.contains_iff_mem]
    exact List.mem_take_iff_getElem.2 ⟨j, by omega, e⟩
  rw [h0] at this
  cases this
theorem idxI_miss {l : List Int} {x : Int} (h0 : l.contains x = false) : idxI l x = -1 := by
  refine idxI_no ?_
  rw [List.idxOf?, List.findIdx?_eq_none_iff]
  intro y hy
  rw [beq_eq_false_iff_ne]
  rintro rfl
  rw [Bool.eq_false_iff] at h0
  exact h0 (List.contains_iff_mem.2 hy)
theorem idxI_neg {l : List Int} {x : Int} : idxI l x < 0 ↔ l.contains x = false := by
  constructor
  · intro h
    rw [Bool.eq_false_iff]
    intro hc
    obtain ⟨k, hk⟩ : ∃ k, l.idxOf? x = some k := by
      cases e : l.idxOf? x with
      | some k => exact ⟨k, rfl⟩
      | none =>
        rw [List.idxOf?, List.findIdx?_eq_none_iff] at e
        have := e x (List.contains_iff_mem.1 hc)
        simp at this
    rw [idxI_some hk] at h
    omega
  · intro h; rw [idxI_miss h]; decide
theorem idxI_ge {l : List Int} {x : Int} (h : l.contains x = true) : 0 ≤ idxI l x := by
  rcases Int.lt_or_le (idxI l x) 0 with g | g
  · rw [idxI_neg, h] at g; cases g
  · exact g
set_option maxRecDepth 100000 in
theorem rplace18_any (A : Option Addr) (c : Nat) (l : List Int) (x : Int) (K : Nat → Prop) (w : World) (h : IntS w K (.slice A l.length c) l) (hn : l.length ≤ 1000000000) :
    Calls Tryz.prog 62 #[.slice A l.length c, .int .i64 x] w fun e w' => e = .returned (.int .i64 (idxI l x)) ∧ w = w' := by
  replace h := hide h
  have hhit := hide (fun k (hk : k < l.length) => idxI_first (x := x) hk)
  have hmis := hide (idxI_miss (l := l) (x := x))
  generalize idxI l x = r at *
  go_enter Tryz.func62, Tryz.ntmps62
  go_wp2_with fail
  go_loop [5] (fun s5 => ∃ k : Nat, k ≤ l.length ∧ s5 = .int .i64 k ∧ Hid ((l.take k).contains x = false)) (fun s5 => l.length - (intOf s5).toNat)
  case atStart => exact ⟨0, Nat.zero_le _, by go_num, hide rfl⟩
  case round =>
    obtain ⟨k, hk, rfl, hc⟩ := hrel
    have hk1 : (0 : Int) ≤ (k : Int) := Int.natCast_nonneg _
    by_cases hlt : k < l.length
    · have hki : (k : Int) < (l.length : Int) := by omega
      obtain ⟨b, off, rfl, -, x1⟩ := h.out.at_ hlt
      have hst : Hid ((l.take (k + 1)).contains x = ((l.take k).contains x || l[k] == x)) := hide (by rw [take_snoc' hlt, List.contains_append]; congr 1; rw [List.contains_cons, List.contains_nil, Bool.or_false]; rw [Bool.eq_iff_iff, beq_iff_eq, beq_iff_eq]; exact eq_comm)
      have hin := hide (fun e => hhit.out k hlt hc.out e)
      generalize l[k] = y at *
      cases hy : (y == x) with
      | true =>
        have hr := hin.out (by simpa using hy)
        subst hr
        clear hin hst
        replace hc := hide hc
        replace hhit := hide hhit
        go_wp2
        go_ret
        exact ⟨rfl, rfl⟩
      | false =>
        have hr : Hid ((l.take (k + 1)).contains x = false) := hide (by rw [hst.out, hc.out, hy]; rfl)
        clear hin hst
        replace hc := hide hc
        go_wp2
        go_round
        case rel => exact ⟨k + 1, by omega, by go_num, hr⟩
        case measure => simp [intOf]; omega
    · obtain rfl : k = l.length := by omega
      have hr := hmis.out (by have := hc.out; rwa [List.take_length] at this)
      subst hr
      replace hc := hide hc
      go_wp2
      go_ret
      exact ⟨rfl, rfl⟩
/-- Are numbers those of n things, each once? -/
def permB (l : List Int) (n : Nat) : Bool := decide (l.length = n) && (List.range n).all fun i => l.contains (i : Int)
set_option maxRecDepth 100000 in
theorem rperm18_any (A : Option Addr) (c : Nat) (l : List Int) (n : Nat) (K : Nat → Prop) (w : World) (h : IntS w K (.slice A l.length c) l) (hn : l.length ≤ 1000000000) :
    Calls Tryz.prog 61 #[.slice A l.length c, .int .i64 (n : Int)] w fun e w' => e = .returned (.bool (permB l n)) ∧ w = w' := by
  replace h := hide h
  by_cases hln : l.length = n
  · subst hln
    have hno : Hid (∀ i, i < l.length → l.contains (i : Int) = false → permB l l.length = false) := hide (fun i hi hc => by
      unfold permB
      rw [Bool.and_eq_false_iff]
      right
      rw [List.all_eq_false]
      exact ⟨i, List.mem_range.2 hi, by rw [hc]; decide⟩)
    have hyes : Hid ((∀ i, i < l.length → l.contains (i : Int) = true) → permB l l.length = true) := hide (fun g => by
      unfold permB
      rw [decide_eq_true rfl, Bool.true_and, List.all_eq_true]
      exact fun i hi => g i (List.mem_range.1 hi))
    generalize permB l l.length = r at *
    go_enter Tryz.func61, Tryz.ntmps61
    go_wp2_with fail
    go_loop [5] (fun s5 => ∃ k : Nat, k ≤ l.length ∧ s5 = .int .i64 k ∧ Hid (∀ i, i < k → l.contains (i : Int) = true)) (fun s5 => l.length - (intOf s5).toNat)
    case atStart => exact ⟨0, Nat.zero_le _, by go_num, hide (fun i hi => absurd hi (by omega))⟩
    case round =>
      obtain ⟨k, hk, rfl, hall⟩ := hrel
      have hk1 : (0 : Int) ≤ (k : Int) := Int.natCast_nonneg _
      by_cases hlt : k < l.length
      · have hki : (k : Int) < (l.length : Int) := by omega
        have hcall := hide (rplace18_any A c l (k : Int) K w h.out hn)
        have hneg := hide (idxI_neg (l := l) (x := (k : Int)))
        have hst := hide (fun (g : l.contains (k : Int) = true) => (fun i (hi : i < k + 1) => (by
          by_cases e : i = k
          · subst e; exact g
          · exact hall.out i (by omega) : l.contains (i : Int) = true)))
        have hno2 := hide (hno.out k hlt)
        generalize idxI l (k : Int) = q at *
        go_wp2_with fail
        refine hcall.out.mono ?_
        rintro e w1 ⟨rfl, rfl⟩
        by_cases hq : q < 0
        · have hr := hno2.out (hneg.out.1 hq)
          have hqb : decide (q < 0) = true := by simpa using hq
          subst hr
          clear hneg hst hno2 hq
          replace hall := hide hall
          go_wp2
          go_ret
          exact ⟨rfl, rfl⟩
        · have hqb : decide (q < 0) = false := by simpa using hq
          have hr := hide (hst.out (by
            cases e : l.contains (k : Int) with
            | true => rfl
            | false => exact absurd (hneg.out.2 e) hq))
          clear hneg hst hno2 hq hall
          go_wp2
          go_round
          case rel => exact ⟨k + 1, by omega, by go_num, hr⟩
          case measure => simp [intOf]; omega
      · obtain rfl : k = l.length := by omega
        have hr := hyes.out hall.out
        subst hr
        replace hall := hide hall
        go_wp2
        go_ret
        exact ⟨rfl, rfl⟩
  · have hne : ((l.length : Int) != (n : Int)) = true := by simp; omega
    have hr : permB l n = false := by unfold permB; rw [decide_eq_false hln]; rfl
    rw [hr]
    clear hln hr
    go_enter Tryz.func61, Tryz.ntmps61
    go_wp2
    go_ret
    exact ⟨rfl, rfl⟩
/-- A pair, as an order has it. -/
def ofC (order : List Int) (p : Cho) : Cho := if idxI order p.a > idxI order p.b then ⟨p.key, p.b, p.a⟩ else p
def ofL (H : List Txn) (order : List Int) : List Cho := (pairsL H).map (ofC order)
theorem fmC_congr {α β : Type} {f g : α → Option β} : ∀ {l : List α}, (∀ x ∈ l, f x = g x) → l.filterMap f = l.filterMap g
  | [], _ => rfl
  | x :: l, h => by
    rw [List.filterMap_cons, List.filterMap_cons, h x (by simp), fmC_congr fun y hy => h y (by simp [hy])]
theorem ofL_dec {H : List Txn} {order : List Int} (h : permB order H.length = true) : ofL H order = decW H order := by
  unfold ofL decW
  rw [← List.filterMap_eq_map]
  refine fmC_congr fun p hp => ?_
  obtain ⟨a, b, ha, hb, hab, hbn, -, -⟩ := pairsL_mem hp
  unfold permB at h
  rw [Bool.and_eq_true, List.all_eq_true] at h
  have h1 := h.2 a (List.mem_range.2 (by omega))
  have h2 := h.2 b (List.mem_range.2 hbn)
  rw [← ha] at h1
  rw [← hb] at h2
  have g1 := idxI_ge h1
  have g2 := idxI_ge h2
  unfold turnC ofC
  show some (if _ then _ else _) = _
  cases e1 : order.idxOf? p.a with
  | none => rw [idxI_no e1] at g1; omega
  | some i =>
    cases e2 : order.idxOf? p.b with
    | none => rw [idxI_no e2] at g2; omega
    | some j =>
      rw [idxI_some e1, idxI_some e2]
      dsimp only
      by_cases hij : j < i
      · rw [if_pos (by omega), if_pos hij]
      · rw [if_neg (by omega), if_neg hij]
set_option maxRecDepth 100000 in
theorem rof18_any (A : Option Addr) (c : Nat) (H : List Txn) (Ap : Option Addr) (cp : Nat) (path : List Int) (w : World) (h : TxnS w (Old w) (.slice A H.length c) H) (hr : rightH H = true) (hn : SmallH H) (hP : IntS w (Old w) (.slice Ap path.length cp) path) (hp : permB path H.length = true) :
    Calls Tryz.prog 30 #[.agg #[.slice A H.length c], .slice Ap path.length cp] w (OutC w (ofL H path)) := by
  obtain ⟨ic, hic, hi1, hi2, hi3⟩ := info_parts infoC9
  have hPl := pairsL_len hr
  have h32 : H.length ≤ 32 := ((rightH_iff H).1 hr).1
  have hpl : path.length = H.length := by unfold permB at hp; rw [Bool.and_eq_true] at hp; exact of_decide_eq_true hp.1
  have hp9 : path.length ≤ 1000000000 := by omega
  clear hpl
  replace hp := hide hp
  replace hr := hide hr
  obtain ⟨W0, hW0⟩ : ∃ W0, w.alloc (.cells #[.slice A H.length c] 24) = W0 := ⟨_, rfl⟩
  have hB := below_allocEq (Below.refl w.heap.size w) hW0 (Nat.le_refl _)
  have k0 := Blk.newEq hW0
  have hT := h.below hB
  have hPS0 := hP.below hB
  have hrc := hide (right08_any A c H W0 hT hn)
  rw [hr.out] at hrc
  have c0 := k0.cell 0
  simp only [List.getElem?_toArray, List.getElem?_cons_zero, List.getElem?_cons_succ] at c0
  clear h hP
  have hof : Hid (ofL H path = (pairsL H).map (ofC path)) := hide rfl
  rw [hof.out]
  clear hof
  obtain ⟨P, hPe⟩ : ∃ P, pairsL H = P := ⟨_, rfl⟩
  rw [hPe] at hPl ⊢
  replace hPe := hide hPe
  go_enter Tryz.func30, Tryz.ntmps30
  go_wp2_with fail
  clear c0 hW0
  refine hrc.out.mono ?_
  rintro e w1 ⟨rfl, hb1⟩
  have hB1 := hB.trans (hb1.mono hB.size)
  replace k0 := k0.below hb1 k0.lt
  have hT1 := hT.below hb1
  have hPS1 := hPS0.below hb1
  have c0 := k0.cell 0
  simp only [List.getElem?_toArray, List.getElem?_cons_zero, List.getElem?_cons_succ] at c0
  have hcp := hide (rperm18_any Ap cp path H.length (Old w1) w1 hPS1 hp9)
  rw [hp.out] at hcp
  clear hrc hT hPS0 hb1 hB
  go_wp2_with fail
  refine hcp.out.mono ?_
  rintro e w2 ⟨rfl, rfl⟩
  clear hcp
  have hcall := hide (rpairs09_any A c H w1 hT1 hr.out hn)
  rw [hPe.out] at hcall
  go_wp2_with fail
  clear c0
  refine hcall.out.mono ?_
  rintro e wl ⟨vl, rfl, hLO, hbl⟩
  obtain ⟨Al, cl, rfl⟩ := hLO.form
  have hB2 := hB1.trans (hbl.mono hB1.size)
  have hLS := hide (hLO.sl (K := Old wl) (fun g h1 h2 => h2))
  have hPS := hide (hPS1.below hbl)
  clear hLO hbl hcall hPS1 k0 hB1 hT1
  go_wp2_with fail
  go_loopw [8, 9] (fun s8 s9 wr => ∃ i : Nat, i ≤ P.length ∧ s9 = .int .i64 i ∧ OwnC wr wl.heap.size s8 ((P.take i).map (ofC path)) ∧ Below wl.heap.size wl wr) (fun _ s9 _ => P.length - (intOf s9).toNat)
  case atStart => exact ⟨0, Nat.zero_le _, by go_num, by simpa using OwnC.nil _ _, Below.refl _ _⟩
  case round =>
    obtain ⟨i, hi, rfl, hown, hb⟩ := hrel
    have hi1' : (0 : Int) ≤ (i : Int) := Int.natCast_nonneg _
    by_cases hlt : i < P.length
    · have hi2' : (i : Int) < (P.length : Int) := by omega
      have hst : Hid ((P.take (i + 1)).map (ofC path) = (P.take i).map (ofC path) ++ [ofC path P[i]]) := hide (by rw [take_snoc' hlt, List.map_append]; rfl)
      have hDl : ((P.take i).map (ofC path)).length ≤ 16384 := by rw [List.length_map, List.length_take]; omega
      obtain ⟨b, off, rfl, -, y0, y1, y2⟩ := (hLS.out.below hb).at_ hlt
      have hoc : Hid (∀ (key xa xb : Int), ofC path ⟨key, xa, xb⟩ = if idxI path xa > idxI path xb then ⟨key, xb, xa⟩ else ⟨key, xa, xb⟩) := hide (fun _ _ _ => rfl)
      generalize P[i] = p at *
      obtain ⟨key, xa, xb⟩ := p
      dsimp only at *
      obtain ⟨Ad, cd, rfl⟩ := hown.form
      generalize (P.take i).map (ofC path) = D at *
      have hkD : D.length + 1 ≤ maxLen := by unfold maxLen; omega
      have hkb : (D.length + 1) * 24 ≤ 140737488355328 := by omega
      have hlt3 := hide (fun g hg => (hown.lt g hg).2)
      replace hown := hide hown
      obtain ⟨W3, hW3⟩ : ∃ W3, wr.alloc (.cells #[.int .i64 key, .int .i64 xa, .int .i64 xb] 80) = W3 := ⟨_, rfl⟩
      have hB3 := below_allocEq (Below.refl wr.heap.size wr) hW3 (Nat.le_refl _)
      have k3 := Blk.newEq hW3
      have hbS := hb.trans (hB3.mono hb.size)
      have hPq := hide (hPS.out.below hbS)
      have e0 := k3.cell 0
      have e1 := k3.cell 1
      have e2 := k3.cell 2
      simp only [List.getElem?_toArray, List.getElem?_cons_zero, List.getElem?_cons_succ] at e0 e1 e2
      replace hown := hide (show OwnC W3 wl.heap.size (.slice Ad D.length cd) D from own_below hown.out hB3 (Nat.le_refl _))
      have hca := hide (rplace18_any Ap cp path xa (Old W3) W3 hPq.out hp9)
      have hcb := hide (rplace18_any Ap cp path xb (Old W3) W3 hPq.out hp9)
      have hoc2 := hide (hoc.out key xa xb)
      generalize ofC path ⟨key, xa, xb⟩ = oc at *
      generalize idxI path xa = qa at *
      generalize idxI path xb = qb at *
      go_wp2_with fail
      clear y0 y1 y2 hW3
      refine hca.out.mono ?_
      rintro e w4 ⟨rfl, rfl⟩
      go_wp2_with fail
      refine hcb.out.mono ?_
      rintro e w4 ⟨rfl, rfl⟩
      clear hca hcb
      by_cases hq : qa > qb
      · have hqb : decide (qa > qb) = true := by simpa using hq
        have hst2 : Hid ((P.take (i + 1)).map (ofC path) = D ++ [⟨key, xb, xa⟩]) := hide (by rw [hst.out, hoc2.out, if_pos hq])
        clear hst hoc2 hq
        go_wp2_with fail
        refine (rback18_any key xa xb W3).mono ?_
        rintro e Wz ⟨rfl, hbz⟩
        have kz := k3.below hbz k3.lt
        have b0 := kz.cell 0
        have b1 := kz.cell 1
        have b2 := kz.cell 2
        have f0 := kz.frozen 0
        have f1 := kz.frozen 1
        have f2 := kz.frozen 2
        simp only [List.getElem?_toArray, List.getElem?_cons_zero, List.getElem?_cons_succ] at b0 b1 b2
        have hw3 := hb.size
        have hbU := ((hbS.trans (hbz.mono hbS.size)).setCell (p := ⟨wr.heap.size, 0, none⟩) hw3 (.int .i64 key)).setCell (p := ⟨wr.heap.size, 1, none⟩) hw3 (.int .i64 xb) |>.setCell (p := ⟨wr.heap.size, 2, none⟩) hw3 (.int .i64 xa)
        have hq := ((kz.set_ 0 (.int .i64 key)).set_ 1 (.int .i64 xb)).set_ 2 (.int .i64 xa)
        simp only [List.setIfInBounds_toArray, List.set_cons_zero, List.set_cons_succ] at hq
        have z0 := hq.cell 0
        have z1 := hq.cell 1
        have z2 := hq.cell 2
        simp only [List.getElem?_toArray, List.getElem?_cons_zero, List.getElem?_cons_succ] at z0 z1 z2
        have hownU := hown.out
        have hfar : ∀ g, (Value.slice Ad D.length cd).ownBlock = some g → g < wr.heap.size := hlt3.out
        replace hownU := own_setCell (own_setCell (own_setCell (own_below hownU hbz (Nat.le_refl _)) (p := ⟨wr.heap.size, 0, none⟩) (fun e => by have := hfar _ e; dsimp only at this; omega) (.int .i64 key)) (p := ⟨wr.heap.size, 1, none⟩) (fun e => by have := hfar _ e; dsimp only at this; omega) (.int .i64 xb)) (p := ⟨wr.heap.size, 2, none⟩) (fun e => by have := hfar _ e; dsimp only at this; omega) (.int .i64 xa)
        go_upto_region 15 with fail
        obtain ⟨Wu, hWu⟩ : ∃ Wu, ((Wz.setCell ⟨wr.heap.size, 0, none⟩ (.int .i64 key)).setCell ⟨wr.heap.size, 1, none⟩ (.int .i64 xb)).setCell ⟨wr.heap.size, 2, none⟩ (.int .i64 xa) = Wu := ⟨_, rfl⟩
        rw [hWu] at hownU hbU z0 z1 z2 ⊢
        replace hownU := hide hownU
        clear hq b0 b1 b2 f0 f1 f2 kz hbz hown e0 e1 e2 hWu k3
        go_wp2_with (at_builtin; go_loud (refine wpList_push (enc := encC) rfl (.tmp 51) (.tmp 53) 67 rfl wl.heap.size 80 ic _ 3 24 Tryz.underlying67 hic hi1 hi2 hi3 rfl (by decide) (.slice Ad D.length cd) D rfl hownU.out (fun _ => rfl) (⟨key, xb, xa⟩ : Cho) _ rfl rfl encC_one hkD hkb hbU.size wl wl.heap.size (Nat.le_refl _) hbU ?_); intro v1 w6 hown1 hg1 hb1 hat1)
        go_roundw
        case rel => exact ⟨i + 1, by omega, by go_num, by rw [hst2.out]; exact hown1, hb1⟩
        case measure => simp [intOf]; omega
      · have hqb : decide (qa > qb) = false := by simpa using hq
        have hst2 : Hid ((P.take (i + 1)).map (ofC path) = D ++ [⟨key, xa, xb⟩]) := hide (by rw [hst.out, hoc2.out, if_neg hq])
        clear hst hoc2 hq
        go_wp2_with (at_builtin; go_loud (refine wpList_push (enc := encC) rfl (.tmp 51) (.tmp 53) 67 rfl wl.heap.size 80 ic _ 3 24 Tryz.underlying67 hic hi1 hi2 hi3 rfl (by decide) (.slice Ad D.length cd) D rfl hown.out (fun _ => rfl) (⟨key, xa, xb⟩ : Cho) _ rfl rfl encC_one hkD hkb hbS.size wl wl.heap.size (Nat.le_refl _) hbS ?_); intro v1 w6 hown1 hg1 hb1 hat1)
        go_roundw
        case rel => exact ⟨i + 1, by omega, by go_num, by rw [hst2.out]; exact hown1, hb1⟩
        case measure => simp [intOf]; omega
    · obtain rfl : i = P.length := by omega
      rw [List.take_length] at hown
      have hsz := hB2.size
      obtain ⟨Az, cz, hv⟩ := hown.form
      rw [List.length_map] at hv
      subst hv
      have hF : Hid (OwnC wr w.heap.size (.slice Az P.length cz) (P.map (ofC path))) := hide (own_base' hown hsz)
      go_wp2
      go_ret
      exact ⟨_, rfl, hF.out, hB2.trans (hb.mono hsz)⟩
end Go.Proofs.YtfodlklpfffaaaaGreatDoor
