/-
  Walks: the reference of layer 7: Hist.
-/
import Derived.Test.YtphcebgpllecjaaGreatDoorC29
set_option linter.unusedVariables false
set_option linter.unusedSimpArgs false
namespace Go.Proofs.YtphcebgpllecjaaGreatDoor
open Go.RowKit Go.Inq
set_option maxHeartbeats 8000000
attribute [local go_sem ↓] Go.wp_at_zero Go.wp_at_succ

theorem infoX7 : (Tryz.prog.info? 38).map (fun i => (i.zero, i.size, i.bytes)) = some (some (.agg #[.int .i64 0, .slice none 0 0, .slice none 0 0]), 3, 56) := by kernel_rfl
/-- What a Hist hands back. -/
def HistOut (r : List Txn × Int × Int) (w : World) (e : Ending) (w' : World) : Prop :=
  ∃ v, e = .returned (.tuple #[.agg #[v], .int .i64 r.2.1, .int .i64 r.2.2]) ∧ TxnS w' (fun b => w.heap.size ≤ b ∧ b < w'.heap.size) v r.1 ∧ Below w.heap.size w w'
theorem results_hist {fn : Func} {t u u2 : Tmp} (h : fn.results = #[.cell t 24, .tmp u, .tmp u2]) {tmps : Array Value} {w : World} {g : Nat} {v : Value} (hp : tmps.getD t undef = .pointer (some ⟨g, 0, none⟩))
    (hb : Blk w g 24 #[v]) : (results fn tmps).run Tryz.prog w = .ok (.tuple #[.agg #[v], tmps.getD u undef, tmps.getD u2 undef]) w := by
  have hl := run_loadVar_row (P := Tryz.prog) w g 24 24 #[v] (0, 0) _ hb Tryz.underlying24 rfl (by kernel_rfl)
  have hp' : tmps[t]?.getD undef = .pointer (some ⟨g, 0, none⟩) := by simpa using hp
  unfold results
  simp [h, hp', asAddr, hl]
theorem may_at {l : List Tx} {i : Nat} (hi : i < l.length) : mayAt l i = if mayT l[i] = true then 0 else 1 := by unfold mayAt; rw [List.getElem?_eq_getElem hi]
theorem look_at {l : List Tx} {i : Nat} (hi : i < l.length) : lookAt l i = if l[i].done = true then (lookR l[i].ops).err else 0 := by unfold lookAt; rw [List.getElem?_eq_getElem hi]
theorem one_at {l : List Tx} {i : Nat} (hi : i < l.length) : oneAt l i = if l[i].done = true then (oneR l l[i]).2 else 0 := by unfold oneAt; rw [List.getElem?_eq_getElem hi]

set_option maxRecDepth 100000 in
theorem rhist7_any (l : List Tx) (A : Option Addr) (c : Nat) (w : World) (h : TxS w (Old w) (.slice A l.length c) l) (hs : SmallT l) :
    Calls Tryz.prog 18 #[.slice A l.length c] w (HistOut (histR l) w) := by
  obtain ⟨ix, hix, hix1, hix2, hix3⟩ := info_parts infoX7
  have hn := hs.1
  have k0 : Blk (w.alloc (.cells #[.slice none 0 0] 24)) w.heap.size 24 #[.slice none 0 0] := Blk.new _ _ _
  have hA : Below w.heap.size w (w.alloc (.cells #[.slice none 0 0] 24)) := (Below.refl _ _).alloc (Nat.le_refl _) _
  have y0 := k0.frozen 0
  have c0 := k0.cell 0
  simp only [List.getElem?_toArray, List.getElem?_cons_zero, List.getElem?_cons_succ] at c0
  by_cases hm : 32 < l.length
  · have hr := hide (histR_many hm)
    have hm2 : (32 : Int) < (l.length : Int) := by omega
    go_enter Tryz.func18, Tryz.ntmps18
    go_wp2
    (try simp only [Exit.inBlock, Exit.then])
    refine bodyPost_ret (results_hist rfl rfl k0) rfl ?_
    exact ⟨.slice none 0 0, by rw [hr.out]; rfl, by rw [hr.out]; exact TxnS.nil _ _ _ _, hA⟩
  · have hm2 : ¬ (32 : Int) < (l.length : Int) := by omega
    have hmay := hide (fun i => histR_may (l := l) hm (i := i))
    have hunl := hide (fun h1 i => histR_unlike (l := l) hm h1 (i := i))
    have hlok := hide (fun h1 h2 i => histR_look (l := l) hm h1 h2 (i := i))
    have hone := hide (fun h1 h2 h3 i => histR_one (l := l) hm h1 h2 h3 (i := i))
    have hgd := hide (fun h1 h2 h3 h4 => histR_good (l := l) hm h1 h2 h3 h4)
    have hsm := hide hs.2
    have hTx := hide (fun (W : World) (hW : Below w.heap.size w W) => TxS.keep h (Agree.below hW fun _ h => h) (fun b hb => Nat.lt_of_lt_of_le hb hW.size))
    have hcalls := hide (fun (i : Nat) (hi : i < l.length) (W : World) (hW : Below w.heap.size w W) => unlike7_any l A c i W (hTx.out W hW) hi hs)
    have hcallo := hide (fun (i : Nat) (hi : i < l.length) (W : World) (hW : Below w.heap.size w W) => one7_any l A c i W (hTx.out W hW) hi hs)
    clear hs hm
    go_enter Tryz.func18, Tryz.ntmps18
    go_wp2_with fail
    generalize w.alloc (.cells #[.slice none 0 0] 24) = W0 at *
    clear y0 c0
    go_loopw [5, 6] (fun s5 _ wr => ∃ i : Nat, i ≤ l.length ∧ s5 = .int .i64 i ∧ Blk wr w.heap.size 24 #[.slice none 0 0] ∧ Hid (∀ j, j < i → mayAt l j = 0) ∧ Below w.heap.size w wr) (fun s5 _ _ => l.length - (intOf s5).toNat)
    case atStart => exact ⟨0, Nat.zero_le _, by go_num, k0, fun j h => absurd h (by omega), hA⟩
    case round =>
      obtain ⟨i, hi, rfl, k1, hall1, hb⟩ := hrel
      clear k0 hA
      have hi1 : (0 : Int) ≤ (i : Int) := Int.natCast_nonneg _
      have y0 := k1.frozen 0
      have c0 := k1.cell 0
      simp only [List.getElem?_toArray, List.getElem?_cons_zero, List.getElem?_cons_succ] at c0
      by_cases hlt : i < l.length
      · have hi2 : (i : Int) < (l.length : Int) := by omega
        obtain ⟨b, off, A', c', rfl, hbK, d0, d1, d2, d3, hev⟩ := TxS.at_ (hTx.out wr hb) hlt
        have hop := may_at hlt
        have hls := hsm.out _ (List.getElem_mem hlt)
        have hbd := hide (fun hb => hmay.out i hlt hall1.out hb)
        have hst : mayAt l i = 0 → ∀ j, j < i + 1 → mayAt l j = 0 := fun g j hj => by
          by_cases hji : j = i
          · subst hji; exact g
          · exact hall1.out j (by omega)
        generalize mayAt l i = me at *
        have hmy := rmay7_any l[i] A' c' wr hev (by omega)
        generalize l[i] = t at *
        go_wp2_with fail
        refine hmy.mono ?_
        rintro e w2 ⟨rfl, hb2⟩
        have k2 := k1.below hb2 k1.lt
        have hb3 := hb.trans (hb2.mono hb.size)
        have y1 := k2.frozen 0
        have c1 := k2.cell 0
        simp only [List.getElem?_toArray, List.getElem?_cons_zero, List.getElem?_cons_succ] at c1
        clear hb2 k1 y0 c0 hmy hev d0 d1 d2 d3
        cases hq : mayT t with
        | true =>
          rw [if_pos hq] at hop
          have hst2 := hide (hst hop)
          clear hbd hst hop hq
          go_wp2
          go_roundw
          case rel => exact ⟨i + 1, by omega, by go_num, k2, hst2, hb3⟩
          case measure => simp [intOf]; omega
        | false =>
          rw [if_neg (by simp [hq])] at hop
          have hr := hbd.out (by rw [hop]; decide)
          rw [hop] at hr
          replace hr := hide hr
          clear hbd hst hop hq
          go_wp2
          (try simp only [Exit.inBlock, Exit.then])
          refine bodyPost_ret (results_hist rfl rfl (k2.set_ 0 _)) rfl ?_
          exact ⟨.slice none 0 0, by rw [hr.out]; rfl, by rw [hr.out]; exact TxnS.nil _ _ _ _, hb3.setCell (p := ⟨w.heap.size, 0, none⟩) (Nat.le_refl _) _⟩
      · have : i = l.length := by omega
        subst this
        go_wp2_with fail
        clear hmay y0 c0
        replace hunl := hide (hunl.out hall1.out)
        replace hlok := hide (hlok.out hall1.out)
        replace hone := hide (hone.out hall1.out)
        replace hgd := hide (hgd.out hall1.out)
        clear hall1
        go_loopw [7, 8] (fun s7 _ wr => ∃ i : Nat, i ≤ l.length ∧ s7 = .int .i64 i ∧ Blk wr w.heap.size 24 #[.slice none 0 0] ∧ Hid (∀ j, j < i → unlikeR l j = 0) ∧ Below w.heap.size w wr) (fun s7 _ _ => l.length - (intOf s7).toNat)
        case atStart => exact ⟨0, Nat.zero_le _, by go_num, k1, fun j h => absurd h (by omega), hb⟩
        case round =>
          clear k1 hb hi hi1 hlt
          obtain ⟨i, hi, rfl, k1, hall2, hb⟩ := hrel
          have hi1 : (0 : Int) ≤ (i : Int) := Int.natCast_nonneg _
          by_cases hlt : i < l.length
          · have hi2 : (i : Int) < (l.length : Int) := by omega
            have hbd := hide (fun hb => hunl.out i hlt hall2.out hb)
            have hst : unlikeR l i = 0 → ∀ j, j < i + 1 → unlikeR l j = 0 := fun g j hj => by
              by_cases hji : j = i
              · subst hji; exact g
              · exact hall2.out j (by omega)
            have hcl := hcalls.out i hlt wr hb
            generalize unlikeR l i = ue at *
            go_wp2_with fail
            refine hcl.mono ?_
            rintro e w2 ⟨rfl, hb2⟩
            have k2 := k1.below hb2 k1.lt
            have hb3 := hb.trans (hb2.mono hb.size)
            have y1 := k2.frozen 0
            have c1 := k2.cell 0
            simp only [List.getElem?_toArray, List.getElem?_cons_zero, List.getElem?_cons_succ] at c1
            clear hb2 k1 hcl hb
            by_cases hue : ue = 0
            · have hst2 := hide (hst hue)
              have hub : (ue != 0) = false := by simpa using hue
              clear hbd hst hue
              go_wp2
              go_roundw
              case rel => exact ⟨i + 1, by omega, by go_num, k2, hst2, hb3⟩
              case measure => simp [intOf]; omega
            · have hr := hide (hbd.out hue)
              have hub : (ue != 0) = true := by simpa using hue
              clear hbd hst hue
              go_wp2
              (try simp only [Exit.inBlock, Exit.then])
              refine bodyPost_ret (results_hist rfl rfl (k2.set_ 0 _)) rfl ?_
              exact ⟨.slice none 0 0, by rw [hr.out]; rfl, by rw [hr.out]; exact TxnS.nil _ _ _ _, hb3.setCell (p := ⟨w.heap.size, 0, none⟩) (Nat.le_refl _) _⟩
          · have : i = l.length := by omega
            subst this
            go_wp2_with fail
            replace hlok := hide (hlok.out hall2.out)
            replace hone := hide (hone.out hall2.out)
            replace hgd := hide (hgd.out hall2.out)
            clear hall2 hunl hcalls
            go_loopw [9, 10, 11, 12] (fun s9 _ _ _ wr => ∃ i : Nat, i ≤ l.length ∧ s9 = .int .i64 i ∧ Blk wr w.heap.size 24 #[.slice none 0 0] ∧ Hid (∀ j, j < i → lookAt l j = 0) ∧ Below w.heap.size w wr) (fun s9 _ _ _ _ => l.length - (intOf s9).toNat)
            case atStart => exact ⟨0, Nat.zero_le _, by go_num, k1, fun j h => absurd h (by omega), hb⟩
            case round =>
              clear k1 hb hi hi1 hlt
              obtain ⟨i, hi, rfl, k1, hall3, hb⟩ := hrel
              have hi1 : (0 : Int) ≤ (i : Int) := Int.natCast_nonneg _
              by_cases hlt : i < l.length
              · have hi2 : (i : Int) < (l.length : Int) := by omega
                obtain ⟨b, off, A', c', rfl, hbK, d0, d1, d2, d3, hev⟩ := TxS.at_ (hTx.out wr hb) hlt
                have hop := look_at hlt
                have hls := hsm.out _ (List.getElem_mem hlt)
                have hbd := hide (fun hb => hlok.out i hlt hall3.out hb)
                have hst : lookAt l i = 0 → ∀ j, j < i + 1 → lookAt l j = 0 := fun g j hj => by
                  by_cases hji : j = i
                  · subst hji; exact g
                  · exact hall3.out j (by omega)
                have hlk := rlook_any A' c' l[i].ops wr hev (by omega)
                generalize lookAt l i = le at *
                generalize l[i] = t at *
                generalize lookR t.ops = lk at *
                obtain ⟨lr, lw, lat, ler⟩ := lk
                dsimp only at hop hlk
                go_wp2_with fail
                refine hlk.mono ?_
                rintro e w2 ⟨rv, wv, rfl, hrv, hwv, hb2⟩
                obtain ⟨Aw, cw, rfl⟩ := SlR.form hwv
                obtain ⟨Ar, cr, rfl⟩ := SlR.form hrv
                have k2 := (k1.below hb2 k1.lt).alloc (.cells #[.slice Ar lr.length cr, .slice Aw lw.length cw] 99)
                have hb3 := (hb.trans (hb2.mono hb.size)).alloc (hb.trans (hb2.mono hb.size)).size (.cells #[.slice Ar lr.length cr, .slice Aw lw.length cw] 99)
                have hf : Below wr.heap.size wr (w2.alloc (.cells #[.slice Ar lr.length cr, .slice Aw lw.length cw] 99)) := hb2.alloc hb2.size _
                have e1 := (hf.cell (p := ⟨b, off + i * 4 + 1, none⟩) hbK).trans d1
                have y1 := k2.frozen 0
                have c1 := k2.cell 0
                simp only [List.getElem?_toArray, List.getElem?_cons_zero, List.getElem?_cons_succ] at c1
                clear hb2 k1 hlk hb hf hrv hwv hev d0 d1 d2 d3
                cases hd : t.done with
                | false =>
                  rw [if_neg (by simp [hd])] at hop
                  rw [hd] at e1
                  have hst2 := hide (hst hop)
                  clear hbd hst hop hd
                  go_wp2
                  go_roundw
                  case rel => exact ⟨i + 1, by omega, by go_num, k2, hst2, hb3⟩
                  case measure => simp [intOf]; omega
                | true =>
                  rw [if_pos hd] at hop
                  rw [hd] at e1
                  by_cases hle : ler = 0
                  · have hst2 := hide (hst (hop.trans hle))
                    have hlb : (ler != 0) = false := by simpa using hle
                    clear hbd hst hop hd hle
                    go_wp2
                    go_roundw
                    case rel => exact ⟨i + 1, by omega, by go_num, k2, hst2, hb3⟩
                    case measure => simp [intOf]; omega
                  · have hr := hbd.out (by rw [hop]; exact hle)
                    rw [hop] at hr
                    replace hr := hide hr
                    have hlb : (ler != 0) = true := by simpa using hle
                    clear hbd hst hop hd hle
                    go_wp2
                    (try simp only [Exit.inBlock, Exit.then])
                    refine bodyPost_ret (results_hist rfl rfl (k2.set_ 0 _)) rfl ?_
                    exact ⟨.slice none 0 0, by rw [hr.out]; rfl, by rw [hr.out]; exact TxnS.nil _ _ _ _, hb3.setCell (p := ⟨w.heap.size, 0, none⟩) (Nat.le_refl _) _⟩
              · have : i = l.length := by omega
                subst this
                have kH : Blk (wr.alloc (.cells #[.slice none 0 0] 24)) wr.heap.size 24 #[.slice none 0 0] := Blk.new _ _ _
                have hsH : (wr.alloc (.cells #[.slice none 0 0] 24)).heap.size = wr.heap.size + 1 := by simp
                have k3 := k1.alloc (.cells #[.slice none 0 0] 24)
                have hb3 := hb.alloc hb.size (.cells #[.slice none 0 0] 24)
                have hgw : w.heap.size < wr.heap.size := k1.lt
                replace hsH := hide hsH
                go_wp2_with fail
                generalize wr.alloc (.cells #[.slice none 0 0] 24) = W1 at *
                generalize wr.heap.size = gH at *
                replace hone := hide (hone.out hall3.out)
                replace hgd := hide (hgd.out hall3.out)
                clear hall3 hlok k1 hb hi hi1 hlt
                have hTL : ∀ n, (txnsTo l n).length ≤ n := fun n => by
                  unfold txnsTo
                  rw [List.length_map]
                  exact Nat.le_trans (List.length_filter_le _ _) (by rw [List.length_take]; omega)
                replace hTL := hide hTL
                go_loopw [14, 15, 16] (fun s14 _ _ wr => ∃ (i : Nat) (v : Value), i ≤ l.length ∧ s14 = .int .i64 i ∧ Blk wr w.heap.size 24 #[.slice none 0 0] ∧ Blk wr gH 24 #[v] ∧
                  OwnR 3 TxnR wr (fun b => gH + 1 ≤ b ∧ b < wr.heap.size ∧ v.ownBlock ≠ some b) (gH + 1) 38 v (txnsTo l i) ∧ Hid (∀ j, j < i → oneAt l j = 0) ∧ Below w.heap.size w wr ∧ gH + 1 ≤ wr.heap.size) (fun s14 _ _ _ => l.length - (intOf s14).toNat)
                case atStart => exact ⟨0, .slice none 0 0, Nat.zero_le _, by go_num, k3, kH, OwnR.nil _ _ _ _ _ _, fun j h => absurd h (by omega), hb3, by have := hsH.out; omega⟩
                case round =>
                  clear k3 kH hb3 hsH
                  obtain ⟨i, v, hi, rfl, k3, kH, hown, hall4, hb, hsz⟩ := hrel
                  have hi1 : (0 : Int) ≤ (i : Int) := Int.natCast_nonneg _
                  by_cases hlt : i < l.length
                  · have hi2 : (i : Int) < (l.length : Int) := by omega
                    obtain ⟨b, off, A', c', rfl, hbK, d0, d1, d2, d3, -⟩ := TxS.at_ (hTx.out wr hb) hlt
                    have hop := one_at hlt
                    have hbd := hide (fun hb => hone.out i hlt hall4.out hb)
                    have hst : oneAt l i = 0 → ∀ j, j < i + 1 → oneAt l j = 0 := fun g j hj => by
                      by_cases hji : j = i
                      · subst hji; exact g
                      · exact hall4.out j (by omega)
                    have hcl := hcallo.out i hlt wr hb
                    have htk := txnsTo_step hlt
                    have htl := hTL.out i
                    generalize oneAt l i = oe0 at *
                    generalize oneR l l[i] = ro at *
                    generalize l[i] = t at *
                    generalize txnsTo l i = L at *
                    cases hd : t.done with
                    | false =>
                      rw [if_neg (by simp [hd])] at hop htk
                      rw [hd] at d1
                      have hst2 := hide (hst hop)
                      replace htk := hide htk
                      clear hbd hst hop hd hcl d0 d2 d3
                      go_wp2
                      go_roundw
                      case rel => exact ⟨i + 1, v, by omega, by go_num, k3, kH, by rw [htk.out, List.append_nil]; exact hown, hst2, hb, hsz⟩
                      case measure => simp [intOf]; omega
                    | true =>
                      rw [if_pos hd] at hop htk
                      rw [hd] at d1
                      clear hd
                      obtain ⟨⟨xs, xw, xr⟩, oe⟩ := ro
                      dsimp only at hop htk hcl
                      replace htk := hide htk
                      go_wp2_with fail
                      refine hcl.mono ?_
                      rintro e w2 ⟨vw, vr, rfl, hvw, hvr, hb2⟩
                      obtain ⟨Aw, cw, rfl⟩ := SlR.form hvw
                      obtain ⟨Ar, cr, rfl⟩ := SlR.form hvr
                      dsimp only at hvw hvr
                      clear hcl d0 d1 d2 d3
                      have m3 := (k3.below hb2 k3.lt).alloc (.cells #[.int .i64 xs, .slice Aw xw.length cw, .slice Ar xr.length cr] 38)
                      have mH := (kH.below hb2 kH.lt).alloc (.cells #[.int .i64 xs, .slice Aw xw.length cw, .slice Ar xr.length cr] 38)
                      have hb3 := (hb.trans (hb2.mono hb.size)).alloc (hb.trans (hb2.mono hb.size)).size (.cells #[.int .i64 xs, .slice Aw xw.length cw, .slice Ar xr.length cr] 38)
                      by_cases hoe : oe = 0
                      · have hst2 := hide (hst (hop.trans hoe))
                        have hob : (oe != 0) = false := by simpa using hoe
                        clear hbd hst hop hoe
                        have hbz : Below wr.heap.size wr ((w2.alloc (.cells #[.int .i64 xs, .slice Aw xw.length cw, .slice Ar xr.length cr] 38)).alloc (.cells #[.int .i64 xs, .slice Aw xw.length cw, .slice Ar xr.length cr] 38)) := (hb2.alloc hb2.size _).alloc (hb2.alloc hb2.size _).size _
                        have hlt2 : ∀ g, v.ownBlock = some g → gH + 1 ≤ g ∧ g < wr.heap.size := fun g hg => hown.lt g hg
                        have hszw : wr.heap.size ≤ w2.heap.size := hb2.size
                        have hown4 : OwnR 3 TxnR ((w2.alloc (.cells #[.int .i64 xs, .slice Aw xw.length cw, .slice Ar xr.length cr] 38)).alloc (.cells #[.int .i64 xs, .slice Aw xw.length cw, .slice Ar xr.length cr] 38)) (fun b => gH + 1 ≤ b ∧ b < ((w2.alloc (.cells #[.int .i64 xs, .slice Aw xw.length cw, .slice Ar xr.length cr] 38)).alloc (.cells #[.int .i64 xs, .slice Aw xw.length cw, .slice Ar xr.length cr] 38)).heap.size ∧ v.ownBlock ≠ some b) (gH + 1) 38 v L := OwnR.keep TxnR.stab hown (Agree.below hbz fun b h => h.2.1) (fun b h => ⟨h.1, by have := h.2.1; simp; omega, h.2.2⟩) (fun g hg => hbz.block g (hlt2 g hg).2)
                        have hin : ∀ b, wr.heap.size ≤ b → b < w2.heap.size → gH + 1 ≤ b ∧ b < ((w2.alloc (.cells #[.int .i64 xs, .slice Aw xw.length cw, .slice Ar xr.length cr] 38)).alloc (.cells #[.int .i64 xs, .slice Aw xw.length cw, .slice Ar xr.length cr] 38)).heap.size ∧ v.ownBlock ≠ some b := fun b h1 h2 => ⟨by omega, by simp; omega, fun e => by have := (hlt2 b e).2; omega⟩
                        have hag2 : Agree (fun b => wr.heap.size ≤ b ∧ b < w2.heap.size) w2 ((w2.alloc (.cells #[.int .i64 xs, .slice Aw xw.length cw, .slice Ar xr.length cr] 38)).alloc (.cells #[.int .i64 xs, .slice Aw xw.length cw, .slice Ar xr.length cr] 38)) := (Agree.alloc (K := fun b => wr.heap.size ≤ b ∧ b < w2.heap.size) (fun b h => h.2) _).trans (Agree.alloc (K := fun b => wr.heap.size ≤ b ∧ b < w2.heap.size) (fun b h => by have := h.2; simp; omega) _)
                        have kN : SlR 3 TxnR ((w2.alloc (.cells #[.int .i64 xs, .slice Aw xw.length cw, .slice Ar xr.length cr] 38)).alloc (.cells #[.int .i64 xs, .slice Aw xw.length cw, .slice Ar xr.length cr] 38)) (fun b => gH + 1 ≤ b ∧ b < ((w2.alloc (.cells #[.int .i64 xs, .slice Aw xw.length cw, .slice Ar xr.length cr] 38)).alloc (.cells #[.int .i64 xs, .slice Aw xw.length cw, .slice Ar xr.length cr] 38)).heap.size ∧ v.ownBlock ≠ some b) (.slice (some ⟨w2.heap.size + 1, 0, none⟩) 1 1) [(⟨xs, xw, xr⟩ : Txn)] := by
                          have := SlR.one (R := TxnR) (size := 3) (K := fun b => gH + 1 ≤ b ∧ b < ((w2.alloc (.cells #[.int .i64 xs, .slice Aw xw.length cw, .slice Ar xr.length cr] 38)).alloc (.cells #[.int .i64 xs, .slice Aw xw.length cw, .slice Ar xr.length cr] 38)).heap.size ∧ v.ownBlock ≠ some b) (x := (⟨xs, xw, xr⟩ : Txn)) (Blk.new (w2.alloc (.cells #[.int .i64 xs, .slice Aw xw.length cw, .slice Ar xr.length cr] 38)) 38 #[.int .i64 xs, .slice Aw xw.length cw, .slice Ar xr.length cr]) rfl ⟨_, _, rfl, IntS.keep hvw hag2 (fun b h => hin b h.1 h.2), ItS.keep hvr hag2 (fun b h => hin b h.1 h.2)⟩ ⟨by simp; omega, by simp, fun e => by have := (hlt2 _ e).2; simp at this; omega⟩
                          rwa [show (w2.alloc (.cells #[.int .i64 xs, .slice Aw xw.length cw, .slice Ar xr.length cr] 38)).heap.size = w2.heap.size + 1 by simp] at this
                        have m4 := m3.alloc (.cells #[.int .i64 xs, .slice Aw xw.length cw, .slice Ar xr.length cr] 38)
                        have mH4 := mH.alloc (.cells #[.int .i64 xs, .slice Aw xw.length cw, .slice Ar xr.length cr] 38)
                        have hb4 := hb3.alloc hb3.size (.cells #[.int .i64 xs, .slice Aw xw.length cw, .slice Ar xr.length cr] 38)
                        have hsz4 : gH + 1 ≤ ((w2.alloc (.cells #[.int .i64 xs, .slice Aw xw.length cw, .slice Ar xr.length cr] 38)).alloc (.cells #[.int .i64 xs, .slice Aw xw.length cw, .slice Ar xr.length cr] 38)).heap.size := by simp; omega
                        have h1c := mH.cell 0
                        simp only [List.getElem?_toArray, List.getElem?_cons_zero] at h1c
                        replace kN := hide kN
                        replace hown4 := hide hown4
                        replace hlt2 := hide hlt2
                        clear hin hag2 hbz hown hvw hvr hb2 k3 kH hb
                        go_wp2_with (at_builtin; refine wpList_append_list (R := TxnR) rfl (.tmp 102) (.tmp 104) 22 rfl (gH + 1) 38 ix _ 3 56 Tryz.underlying22 hix hix1 hix2 hix3 rfl (by decide) v (fun b => gH + 1 ≤ b ∧ b < ((w2.alloc (.cells #[.int .i64 xs, .slice Aw xw.length cw, .slice Ar xr.length cr] 38)).alloc (.cells #[.int .i64 xs, .slice Aw xw.length cw, .slice Ar xr.length cr] 38)).heap.size ∧ v.ownBlock ≠ some b) L rfl hown4.out _ [(⟨xs, xw, xr⟩ : Txn)] rfl kN.out (fun cs x hr => TxnR.one hr) (by simp [maxLen]; omega) (by simp; omega) hsz4 (fun w' hg cs x hr => TxnR.stab _ _ _ _ _ _ hr (Agree.grown hg (fun b hb => ⟨hb.2.1, fun e => hb.2.2 e.symm⟩)) (fun _ h => h)) ?_; intro v6 W6 hown6 hgrow6 hat6; obtain ⟨A6, c6, rfl⟩ := hown6.form; have pH := mH4.grown hgrow6 (fun e => by have := (hlt2.out _ e.symm).1; omega); have tc := pH.cell 0; have tf := pH.frozen 0; simp only [List.getElem?_toArray, List.getElem?_cons_zero] at tc)
                        go_roundw
                        case rel =>
                          have hl6 : (L ++ [(⟨xs, xw, xr⟩ : Txn)]).length = L.length + 1 := by simp
                          rw [hl6] at hown6 hat6
                          have hg6 := hgrow6.size
                          have hlt6 := hown6.lt
                          refine ⟨i + 1, .slice A6 (L.length + 1) c6, by omega, by go_num, (m4.grown hgrow6 (fun e => by have := (hlt2.out _ e.symm).1; omega)).far (by simp; omega) _, pH.set_ 0 _, ?_, hst2, (hb4.grown hgrow6 hb4.size (fun g hg => by have := (hlt2.out g hg).1; omega)).setCell (p := ⟨gH, 0, none⟩) (by simp; omega) _, by rw [World.size_setCell]; omega⟩
                          rw [htk.out]
                          refine OwnR.keep TxnR.stab hown6 (Agree.setCell ⟨gH, 0, none⟩ (by intro h; have : gH + 1 ≤ gH := h.1; omega) _) (fun b h => ⟨h.1, by rw [World.size_setCell]; have := h.2.1; omega, fun e => ?_⟩) (fun g hg => Below.heap_setCell _ _ _ g (by have := (hlt6 g hg).1; simp; omega))
                          rcases hat6 with h6 | h6
                          · exact h.2.2 (h6.symm.trans e)
                          · have := h6.symm.trans e
                            injection this with this
                            have := h.2.1
                            omega
                        case measure => simp [intOf]; omega
                      · have hr := hbd.out (by rw [hop]; exact hoe)
                        rw [hop] at hr
                        replace hr := hide hr
                        have hob : (oe != 0) = true := by simpa using hoe
                        clear hbd hst hop hoe
                        have y1 := m3.frozen 0
                        have c1 := m3.cell 0
                        simp only [List.getElem?_toArray, List.getElem?_cons_zero, List.getElem?_cons_succ] at c1
                        go_wp2
                        (try simp only [Exit.inBlock, Exit.then])
                        refine bodyPost_ret (results_hist rfl rfl (m3.set_ 0 _)) rfl ?_
                        exact ⟨.slice none 0 0, by rw [hr.out]; rfl, by rw [hr.out]; exact TxnS.nil _ _ _ _, hb3.setCell (p := ⟨w.heap.size, 0, none⟩) (Nat.le_refl _) _⟩
                  · have : i = l.length := by omega
                    subst this
                    obtain ⟨AV, cV, rfl⟩ := hown.form
                    have hr := hide (hgd.out hall4.out)
                    have hlt2 := hown.lt
                    have hS : TxnS wr (fun b => gH + 1 ≤ b ∧ b < wr.heap.size) (.slice AV (txnsTo l l.length).length cV) (txnsTo l l.length) := OwnR.sl (OwnR.keep TxnR.stab hown (Agree.refl _ _) (fun b h => ⟨h.1, h.2.1⟩) (fun g hg => rfl)) (fun g hg => hlt2 g hg)
                    have h1c := kH.cell 0
                    have y1 := k3.frozen 0
                    have c1 := k3.cell 0
                    simp only [List.getElem?_toArray, List.getElem?_cons_zero, List.getElem?_cons_succ] at h1c c1
                    clear hlt2 hown hgd hone hcallo
                    generalize txnsTo l l.length = RT at *
                    go_wp2
                    (try simp only [Exit.inBlock, Exit.then])
                    refine bodyPost_ret (results_hist rfl rfl (k3.set_ 0 _)) rfl ?_
                    refine ⟨.slice AV RT.length cV, by rw [hr.out]; rfl, ?_, hb.setCell (p := ⟨w.heap.size, 0, none⟩) (Nat.le_refl _) _⟩
                    rw [hr.out]
                    exact TxnS.keep hS (Agree.setCell ⟨w.heap.size, 0, none⟩ (by intro h; have := h.1; simp at this; omega) _) (fun b h => ⟨by omega, by simp; exact h.2⟩)
end Go.Proofs.YtphcebgpllecjaaGreatDoor
