/-
  Walks: layer 10's reference: bits.
-/
import Derived.Deep.OwnRows
import Derived.Test.YtfhnamomiaekdaaGreatDoorY05
import Derived.Test.YtfhnamomiaekdaaGreatDoorY02
set_option linter.unusedVariables false
set_option linter.unusedSimpArgs false
namespace Go.Proofs.YtfhnamomiaekdaaGreatDoor
open Go.RowKit Go.Inq
set_option maxHeartbeats 1000000
attribute [local go_sem↓] Go.wp_at_zero Go.wp_at_succ
theorem Cc(s i:Nat):decide (s/2^i%2=1)=s.testBit i:=by
 rw[Nat.testBit_eq_decide_div_mod_eq]
theorem Oo{i:Nat}(h:i≤63):2^i≤9223372036854775808:=by
 have:=Nat.pow_le_pow_right (n:=2) (by decide) h;simpa using this
theorem Kr{s i:Nat}(hs:s<18446744073709551616)(hi:i≤63)(h:s.testBit i=false):s+2^i=s|||2^i:=by
 have hp:=Oo hi;have hand:BitVec.ofNat 65 s&&&BitVec.ofNat 65 (2^i)=0#65:=by
  refine BitVec.eq_of_toNat_eq ?_;rw[BitVec.toNat_and,BitVec.toNat_ofNat,BitVec.toNat_ofNat,Nat.mod_eq_of_lt (by omega),Nat.mod_eq_of_lt (by omega)];refine Nat.eq_of_testBit_eq fun j=> ?_;rw[Nat.testBit_and,Nat.testBit_two_pow];by_cases e:i=j
  ·subst e;simp[h]
  ·simp[e]
 have h1:=congrArg BitVec.toNat (BitVec.add_eq_or_of_and_eq_zero _ _ hand);have e1:(BitVec.ofNat 65 s).toNat=s:=(by rw[BitVec.toNat_ofNat];exact Nat.mod_eq_of_lt (by omega));have e2:(BitVec.ofNat 65 (2^i)).toNat=2^i:=(by rw[BitVec.toNat_ofNat];exact Nat.mod_eq_of_lt (by omega));rw[BitVec.toNat_add,BitVec.toNat_or,e1,e2,Nat.mod_eq_of_lt (by omega)]at h1;exact h1
def pow2(n:Nat):Nat:=2^n
theorem pK(i:Int)(w:World):Calls Tryz.prog 233 #[.int .i64 i] w fun e w'=>e= .returned (.bool (decide (0≤i)&&decide (i≤63)))∧w=w':=by
 by_cases h0:0≤i
 ·have h1:decide (i≥0)=true:=(by simpa using h0);have h2:decide (0≤i)=true:=(by simpa using h0);go_enter Tryz.func233,Tryz.ntmps233;go_wp2;go_ret;exact⟨by simp[h2],rfl⟩
 ·have h1:decide (i≥0)=false:=(by simpa using h0);have h2:decide (0≤i)=false:=(by simpa using h0);clear h0;go_enter Tryz.func233,Tryz.ntmps233;go_wp2;go_ret;exact⟨by simp[h2],rfl⟩
theorem xu(n:Nat)(hn:n≤63)(w:World):Calls Tryz.prog 234 #[.int .i64 (n:Int)] w fun e w'=>e= .returned (.int .u64 (pow2 n:Nat))∧w=w':=by
 go_enter Tryz.func234,Tryz.ntmps234;go_wp2
 go_loop [3,4] (fun s3 s4=>∃k:Nat,k≤n∧s4= .int .i64 k∧∃x:Nat,s3= .int .u64 x∧Hid (x=pow2 k)) (fun _ s4=>n-(intOf s4).toNat)
 case atStart=>exact⟨0,Nat.zero_le _,by go_num,1,by go_num,hide rfl⟩
 case round=>
  obtain⟨k,hk,rfl,x,rfl,hx⟩:=hrel;have hk1:(0:Int)≤(k:Int):=Int.natCast_nonneg _;by_cases hlt:k<n
  ·have hx2:x≤9223372036854775807:=by
    rw[hx.out];unfold pow2;have:=Nat.pow_lt_pow_right (a:=2) (by decide) (show k<63 by omega);have h63:(2:Nat)^63=9223372036854775808:=(by decide);omega
   have hxs:Hid (x+x=pow2 (k+1)):=hide (by rw[hx.out];unfold pow2;rw[Nat.pow_succ];omega);replace hx:=hide hx;have hwr:IntKind.u64.wrap ((x:Int)+(x:Int))=((x+x:Nat):Int):=(by rw[IntKind.wrap_u64];omega);go_wp2
   go_round
   case rel=>exact⟨k+1,by omega,by go_num,x+x,by go_num,hxs⟩
   case measure=>simp[intOf];omega
  ·obtain rfl:k=n:=(by omega);go_wp2;go_ret;exact⟨by rw[hx.out];rfl,rfl⟩
theorem mQ(s:Nat)(hs:s<18446744073709551616)(i:Int)(w:World):Calls Tryz.prog 200 #[.int .u64 s,.int .i64 i] w fun e w'=>e= .returned (.bool (Go.Inq.hasB s i))∧w=w':=by
 by_cases hi:0≤i∧i≤63
 ·obtain⟨n,rfl⟩:∃n:Nat,i=n:=⟨i.toNat,by omega⟩;have hn:n≤63:=(by omega);have hb:(decide ((0:Int)≤(n:Int))&&decide ((n:Int)≤63))=true:=(by simp;omega);have hr:=hide (om s n);have hq:=hide (Cc s n);clear hi;go_enter Tryz.func200,Tryz.ntmps200;go_wp2_with fail;refine(pK (n:Int) _).mono ?_;rw[hb];rintro e w1 ⟨rfl,rfl⟩;go_wp2_with fail;refine(xu n hn _).mono ?_;rintro e w1 ⟨rfl,rfl⟩;have hp:Hid (pow2 n=2^n):=hide rfl;have hp0:0<pow2 n:=Nat.two_pow_pos n;generalize pow2 n=p at*;have hp1:((p:Int)==0)=false:=(by rw[beq_eq_false_iff_ne];omega);have hw:Hid (IntKind.u64.wrap ((s:Int)/(p:Int))=((s/p:Nat):Int)):=hide (by
   have h1:s/p≤s:=Nat.div_le_self _ _;have e:(s:Int)/(p:Int)=((s/p:Nat):Int):=(Int.natCast_ediv s p).symm;rw[e];generalize s/p=q at*;rw[IntKind.wrap_u64];omega)
  go_wp2;go_ret;refine⟨bP ?_,rfl⟩;rw[hr.out,←hq.out,←hp.out,hw.out];generalize s/p=q;rw[Int.tmod_eq_emod_of_nonneg (Int.natCast_nonneg _),Bool.eq_iff_iff];simp;omega
 ·have hb:(decide (0≤i)&&decide (i≤63))=false:=by
   rw[Bool.and_eq_false_iff];simp;omega
  have hr:Hid (Go.Inq.hasB s i=false):=hide (by
   unfold Go.Inq.hasB;by_cases h0:0≤i
   ·rw[Nat.testBit_lt_two_pow (Nat.lt_of_lt_of_le hs (by
     have:(2:Nat)^64≤2^i.toNat:=Nat.pow_le_pow_right (by decide) (by omega);omega))]
    simp
   ·simp[h0])
  clear hi;go_enter Tryz.func200,Tryz.ntmps200;go_wp2_with fail;refine(pK i _).mono ?_;rw[hb];rintro e w1 ⟨rfl,rfl⟩;go_wp2;go_ret;exact⟨by rw[hr.out];rfl,rfl⟩
theorem d9(s:Nat)(hs:s<18446744073709551616)(i:Int)(w:World):Calls Tryz.prog 195 #[.int .u64 s,.int .i64 i] w fun e w'=>e= .returned (.int .u64 (eU s i:Nat))∧w=w':=by
 cases hh:Go.Inq.hasB s i with
 |true=>
  have hr:Hid (eU s i=s):=hide (by
   unfold Go.Inq.hasB at hh;rw[Bool.and_eq_true,decide_eq_true_eq]at hh;unfold eU p8;by_cases h:i<64
   ·rw[if_pos ⟨hh.1,h⟩];refine Nat.eq_of_testBit_eq fun j=> ?_;rw[Nat.testBit_or,Nat.testBit_two_pow];by_cases e:i.toNat=j
    ·subst e;simp[hh.2]
    ·simp[e]
   ·rw[if_neg (by omega),Nat.or_zero])
  have hc:=hide (mQ s hs i);rw[hh]at hc;replace hh:=hide hh;go_enter Tryz.func195,Tryz.ntmps195;go_wp2_with fail;refine(hc.out _).mono ?_;rintro e w1 ⟨rfl,rfl⟩;go_wp2;go_ret;exact⟨by rw[hr.out];rfl,rfl⟩
 |false=>
  have hc:=hide (mQ s hs i);rw[hh]at hc;by_cases hi:0≤i∧i≤63
  ·obtain⟨n,rfl⟩:∃n:Nat,i=n:=⟨i.toNat,by omega⟩;have hn:n≤63:=(by omega);have hb:(decide ((0:Int)≤(n:Int))&&decide ((n:Int)≤63))=true:=(by simp;omega);have hbit:s.testBit n=false:=(by rw[←om];exact hh);have hadd:=Kr hs hn hbit;have hr:Hid (eU s (n:Int)=s+pow2 n):=hide (by unfold eU;rw[AQ (by omega) (by omega),Int.toNat_natCast,←hadd];rfl);have hlt:s+pow2 n<18446744073709551616:=(by rw[←hr.out];exact Ki hs _);replace hadd:=hide hadd;clear hi hh hbit;go_enter Tryz.func195,Tryz.ntmps195;go_wp2_with fail;refine(hc.out _).mono ?_;rintro e w1 ⟨rfl,rfl⟩;go_wp2_with fail;refine(pK (n:Int) _).mono ?_;rw[hb];rintro e w1 ⟨rfl,rfl⟩;go_wp2_with fail;refine(xu n hn _).mono ?_;rintro e w1 ⟨rfl,rfl⟩;generalize pow2 n=p at*;have hw:IntKind.u64.wrap ((s:Int)+(p:Int))=((s+p:Nat):Int):=(by rw[IntKind.wrap_u64];omega);go_wp2;go_ret;exact⟨by rw[hr.out];first|rfl|simp,rfl⟩
  ·have hb:(decide (0≤i)&&decide (i≤63))=false:=by
    rw[Bool.and_eq_false_iff];simp;omega
   have hr:Hid (eU s i=s):=hide (by unfold eU p8;rw[if_neg (by omega),Nat.or_zero]);clear hi hh;go_enter Tryz.func195,Tryz.ntmps195;go_wp2_with fail;refine(hc.out _).mono ?_;rintro e w1 ⟨rfl,rfl⟩;go_wp2_with fail;refine(pK i _).mono ?_;rw[hb];rintro e w1 ⟨rfl,rfl⟩;go_wp2;go_ret;exact⟨by rw[hr.out];rfl,rfl⟩
set_option maxHeartbeats 2000000
theorem Gn:(Tryz.prog.info? 172).map (fun i=>(i.zero,i.size,i.bytes))=some (some (.int .u64 0),1,8):=by kernel_rfl
abbrev Hy:=Kl 172
theorem jB(n:Nat)(hn:n≤64)(w:World):Calls Tryz.prog 166 #[.int .i64 n] w (Hy w n noE):=by
 have hmk:∀W:World,(Instr.makeSlice 75 (.int .i64 (n:Int)) (.int .i64 (n:Int))).run Tryz.prog W= .ok (.slice (some ⟨W.heap.size,0,none⟩) n n) (W.alloc (.cells (madeCells #[.int .u64 0] n) 172)):=
  fun W=>run_make_row' (P:=Tryz.prog) 75 172 (.int .u64 0) 8 Tryz.underlying75 Gn rfl .i64 .i64 n (by omega) (by omega) W
 have h1:decide ((n:Int)<0)=false:=(by simp);have h2:decide ((n:Int)>64)=false:=(by simp;omega);have hno:=hide (Kk n);go_enter Tryz.func166,Tryz.ntmps166;go_wp2;refine bodyPost_ret (v:= .tuple #[.agg #[.int .i64 n,.slice (some ⟨w.heap.size+1,0,none⟩) n n],.int .i64 0]) (by simp[results,Tryz.results166,go_sem]) rfl ?_;refine⟨w.heap.size+1,by omega,rfl,?_,?_⟩
 ·rw[hno.out];have:=Blk.new (w.alloc (.cells #[.int .i64 n,.slice (some ⟨w.heap.size+1,0,none⟩) n n] 77)) 172 (madeCells #[.int .u64 0] n);simpa using this
 ·exact((Below.refl _ _).alloc (Nat.le_refl _) _).alloc (by simp) _
theorem jd(n:Nat)(A:Option Addr)(c:Nat)(E:aj)(K:Nat→Prop)(w:World)(h:GrS w K n A c E)(hK:∀b,K b→b<w.heap.size):
 Calls Tryz.prog 101 #[.agg #[.int .i64 n,.slice A n c]] w fun e w'=>e= .returned (.bool true)∧Below w.heap.size w w':=by
 have h1:decide ((n:Int)≥0)=true:=(by simp);have h2:decide ((n:Int)≤64)=true:=(by have:=h.n64;simp;omega);have hB:Below w.heap.size w (w.alloc (.cells #[.int .i64 n,.slice A n c] 77)):=(Below.refl _ _).alloc (Nat.le_refl _) _;have k0:Blk (w.alloc (.cells #[.int .i64 n,.slice A n c] 77)) w.heap.size 77 #[.int .i64 n,.slice A n c]:=Blk.new _ _ _;have hs:=h.sl.keep (Agree.below hB hK) (fun b hb=>hb);have hx:∀x∈dI n E,x<18446744073709551616:=fun x hx=>Nat.lt_of_lt_of_le (BN hx) (iA h.n64);have hsub:=hide (Ho h.n64 (l:=dI n E) fun x hx=>BN hx);have hjl:=hide (wT (l:=dI n E) (n:=64) hx);have hpl:=hide (show 2^n-1<18446744073709551616 by have:=iA h.n64;have:=Nat.two_pow_pos n;omega);have hnn:=hide h.n64;replace hx:=hide hx;replace hs:=hide hs;clear h hK;go_enter Tryz.func101,Tryz.ntmps101;go_wp2;generalize w.alloc (.cells #[.int .i64 n,.slice A n c] 77)=W at*;have c0:=Blk.n0 k0;have c1:=Blk.n1 k0;go_quiet ((first|(go_at_call 171;exact Calls.quiet_of_same ((fV A n c (dI n E) K _ (aQ n E) (hs.out.keep (Agree.drewN _ _ _) (fun _ h=>h)) hx.out (by have:=hnn.out;omega)).mono fun _ _ h=>⟨h.1,h.2.symm⟩))|(go_at_call 172;exact Calls.quiet_of_same ((BQ n hnn.out _).mono fun _ _ h=>⟨h.1,h.2.symm⟩))|(go_at_call 133;exact Calls.quiet_of_same ((zn _ _ hjl.out hpl.out _).mono fun _ _ h=>⟨h.1,h.2.symm⟩))));rw[hsub.out];go_wp2;go_ret;exact⟨rfl,hB.trans ⟨rfl,rfl,rfl,Nat.le_refl _,fun _ _=>rfl⟩⟩
theorem Em{w:World}{o:Obj}:Below w.heap.size w (w.alloc o):=(Below.refl _ _).alloc (Nat.le_refl _) _
theorem xA(n:Nat)(A A':Option Addr)(c c':Nat)(E E':aj)(K:Nat→Prop)(w:World)(h:GrS w K n A c E)(h':GrS w K n A' c' E')(hK:∀b,K b→b<w.heap.size):
 Calls Tryz.prog 170 #[.agg #[.int .i64 n,.slice A n c],.agg #[.int .i64 n,.slice A' n c']] w fun e w'=>e= .returned (.bool true)∧Below w.heap.size w w':=by
 have hB:Below w.heap.size w ((w.alloc (.cells #[.int .i64 n,.slice A n c] 77)).alloc (.cells #[.int .i64 n,.slice A' n c'] 77)):=Em.alloc (by simp) _;have k0:Blk ((w.alloc (.cells #[.int .i64 n,.slice A n c] 77)).alloc (.cells #[.int .i64 n,.slice A' n c'] 77)) w.heap.size 77 #[.int .i64 n,.slice A n c]:=(Blk.new _ _ _).alloc _;have k1:Blk ((w.alloc (.cells #[.int .i64 n,.slice A n c] 77)).alloc (.cells #[.int .i64 n,.slice A' n c'] 77)) (w.heap.size+1) 77 #[.int .i64 n,.slice A' n c']:=by
  have:=Blk.new (w.alloc (.cells #[.int .i64 n,.slice A n c] 77)) 77 #[.int .i64 n,.slice A' n c'];simpa using this
 have hg:=hide (h.keep (Agree.below hB hK) (fun b hb=>hb));have hg':=hide (h'.keep (Agree.below hB hK) (fun b hb=>hb));have hK2:∀b,K b→b<((w.alloc (.cells #[.int .i64 n,.slice A n c] 77)).alloc (.cells #[.int .i64 n,.slice A' n c'] 77)).heap.size:=fun b hb=>(by have:=hK b hb;simp;omega);clear h h';replace hK:=hide hK;go_enter Tryz.func170,Tryz.ntmps170;go_wp2_with fail;refine(jd n _ c E K _ hg.out hK2).mono ?_;rintro e w1 ⟨rfl,hb1⟩;have hg2:=hide (hg'.out.keep (Agree.below hb1 hK2) (fun b hb=>hb));have hK3:∀b,K b→b<w1.heap.size:=fun b hb=>Nat.lt_of_lt_of_le (hK2 b hb) hb1.size;replace k0:=k0.below hb1 k0.lt;replace k1:=k1.below hb1 k1.lt;have hb2:=hB.trans (hb1.mono hB.size);have c0:=Blk.n0 k0;have c1:=Blk.n1 k0;have d0:=Blk.n0 k1;have d1:=Blk.n1 k1;clear hg hg' hb1 hB;replace hK2:=hide hK2;go_wp2_with fail;refine(jd n _ c' E' K _ hg2.out hK3).mono ?_;rintro e w3 ⟨rfl,hb3⟩;replace k0:=k0.below hb3 k0.lt;replace k1:=k1.below hb3 k1.lt;have hb4:=hb2.trans (hb3.mono hb2.size);clear c0 c1 d0 d1;have c0:=Blk.n0 k0;have d0:=Blk.n0 k1;clear hb3 hb2;replace hK3:=hide hK3;go_wp2;go_ret;exact⟨rfl,hb4⟩
end Go.Proofs.YtfhnamomiaekdaaGreatDoor
namespace Go.Proofs.YtfhnamomiaekdaaGreatDoor
open Go.RowKit Go.Inq
set_option maxHeartbeats 1000000
theorem own_base'{w:World}{base base':Nat}{e:TypeId}{size n:Nat}{v:Value}{xs:List Value}(h:w.ownsRow base e size v n xs)(hb:base'≤base):w.ownsRow base' e size v n xs:=by
 refine⟨h.1,?_⟩;rcases h.2 with h2|⟨g,cap,cur,hv,hg,r⟩
 ·exact .inl h2
 ·exact .inr ⟨g,cap,cur,hv,Nat.le_trans hb hg,r⟩
end Go.Proofs.YtfhnamomiaekdaaGreatDoor
namespace Go.Proofs.YtfhnamomiaekdaaGreatDoor
open Go.RowKit Go.Inq
set_option maxHeartbeats 4000000
attribute [local go_sem↓] Go.wp_at_zero Go.wp_at_succ
def En(w:World)(base:Nat)(v:Value)(l:List Nat):Prop:=w.ownsRow base 172 1 v l.length (l.map vG).flatten
theorem Eo(x:Nat):∀u∈vG x,u.oneCell'=true:=by intro u hu;simp[vG]at hu;subst hu;rfl
theorem En.form{w:World}{base:Nat}{v:Value}{l:List Nat}(h:En w base v l):∃A c,v= .slice A l.length c:=bY h
def RG(W:World)(base n:Nat)(E:aj)(v:Value):Prop:=
 (n=0∧v= .slice none 0 0)∨∃g cap cur,v= .slice (some ⟨g,0,none⟩) n cap∧base≤g∧Blk W g 172 cur∧n≤cap∧cap≤maxLen∧cur.size=cap∧∀i,i<n→cur[i]?=some (.int .u64 (aV (E i) n:Nat))
theorem RG.mq{W:World}{base n:Nat}{E:aj}{v:Value}(h:En W base v (dI n E)):RG W base n E v:=by
 obtain⟨h1,h2⟩:=h;rw[aQ]at h2;rcases h2 with⟨h3,h4⟩|⟨g,cap,cur,h3,h4,h5,h6,h7,h8,h9⟩
 ·exact .inl ⟨h4,h3⟩
 ·refine .inr ⟨g,cap,cur,h3,h4,h5,h6,h7,by rw[h8];simp,fun i hi=> ?_⟩;have h10:(cur.toList.take (n*1))[i]?=some (.int .u64 (aV (E i) n:Nat)):=by
   rw[h9];have:∀l:List Nat,(l.map vG).flatten=l.map fun x:Nat=>Value.int .u64 x:=fun l=>by
    induction l with
    |nil=>rfl
    |cons a l ih=>simp[vG]at ih⊢;exact ih
   rw[this,List.getElem?_map,List.getElem?_eq_getElem (by rw[aQ];exact hi),fT hi];rfl
  rw[List.getElem?_take]at h10;split at h10
  ·simpa using h10
  ·cases h10
theorem wW(n:Nat):dI n noE=List.replicate n 0:=by
 unfold dI;rw[List.eq_replicate_iff];refine⟨by simp,fun x hx=> ?_⟩;obtain⟨a,_,rfl⟩:=List.mem_map.1 hx;refine Nat.eq_of_testBit_eq fun j=> ?_;rw[aP];simp[noE]
def xB(w:World)(n:Nat)(E:aj)(e:Ending)(w':World):Prop:=∃v,e= .returned (.agg #[.int .i64 n,v])∧RG w' w.heap.size n E v∧Below w.heap.size w w'
set_option maxRecDepth 100000 in
theorem iR(n:Nat)(hn:n≤64)(w:World):Calls Tryz.prog 194 #[.int .i64 (n:Int)] w (xB w n noE):=by
 obtain⟨iu,hiu,hi1,hi2,hi3⟩:=info_parts Gn;go_enter Tryz.func194,Tryz.ntmps194;go_upto_region 2 with fail;obtain⟨W0,hW0⟩:∃W0,(w.alloc (.cells #[.int .i64 0,.slice none 0 0] 140)).alloc (.cells #[.int .i64 n,.slice none 0 0] 140)=W0:=⟨_,rfl⟩;have hb:=aG hW0;have k1:=Blk.fC hW0;have k2:=Blk.dQ hW0;have s0:=size_two hW0;rw[hW0];clear hW0;replace s0:=hide s0;go_wp2_with fail;go_loopw [4] (fun s4 wr=>∃k:Nat,k≤n∧s4= .int .i64 k∧∃v,Blk wr w.heap.size 140 #[.int .i64 0,.slice none 0 0]∧Blk wr (w.heap.size+1) 140 #[.int .i64 n,v]∧En wr (w.heap.size+2) v (List.replicate k 0)∧Below w.heap.size w wr) (fun s4 _=>n-(intOf s4).toNat);case atStart=>exact⟨0,Nat.zero_le _,by go_num,_,k1,k2,World.ownsRow_nil _ _ _ _,hb⟩
 case round=>
  obtain⟨k,hk,rfl,v,m1,m2,hown,hbr⟩:=hrel;obtain⟨Wr,rfl⟩:∃Wr,Wr=wr:=⟨_,rfl⟩;have hk1:(0:Int)≤(k:Int):=Int.natCast_nonneg _;obtain⟨A,c,rfl⟩:=En.form hown;have c0:=m2.cell 0;have c1:=m2.cell 1;have f1:=m2.frozen 1;have m2l:=m2.lt;simp only[gA,gZ,gS]at c0 c1;by_cases hlt:k<n
  ·have hki:(k:Int)<(n:Int):=(by omega);have hll:(List.replicate k 0).length=k:=List.length_replicate;have hkD:(List.replicate k (0:Nat)).length+1≤maxLen:=(by unfold maxLen;simp;omega);have hkb:((List.replicate k (0:Nat)).length+1)*8≤140737488355328:=(by simp;omega);have hsn:Hid (List.replicate k (0:Nat)++[0]=List.replicate (k+1) 0):=hide (by rw[List.replicate_succ']);clear hll;generalize List.replicate k (0:Nat)=D at*;have hsz:w.heap.size+2≤Wr.heap.size:=(by omega);have jc:∀g,(Value.slice A D.length c).ownBlock=some g→w.heap.size+2≤g:=fun g hg=>(hown.lt g hg).1;replace hown:=hide hown;replace jc:=hide jc;go_upto_region 5 with fail;go_wp2_with (at_builtin;go_loud (refine aT (enc:=vG) rfl (.tmp 13) (.tmp 14) 75 rfl (w.heap.size+2) 172 iu _ 1 8 Tryz.underlying75 hiu hi1 hi2 hi3 rfl (by decide) (.slice A D.length c) D rfl hown.out (fun _=>rfl) 0 _ rfl rfl Eo hkD hkb hsz w w.heap.size (by omega) hbr ?_);intro v1 w6 hown1 hg1 hb1 ji;have j1:=(m1.alloc (.cells #[.int .u64 0] 172)).grown hg1 (fun e=>by have:=jc.out _ e.symm;omega);have j2:=(m2.alloc (.cells #[.int .u64 0] 172)).grown hg1 (fun e=>by have:=jc.out _ e.symm;omega);have d1:=j2.cell 1;have g1:=j2.frozen 1;simp only[gA,gZ,gS]at d1;obtain⟨A6,c6,rfl⟩:=En.form hown1);go_roundw;case rel=>
    refine⟨k+1,by omega,by go_num,.slice A6 (D++[0]).length c6,j1.far (p:=⟨w.heap.size+1,1,none⟩) (show w.heap.size≠w.heap.size+1 by omega) _,?_,?_,hb1.setCell (p:=⟨w.heap.size+1,1,none⟩) (by simp) _⟩
    ·have:=j2.aD 1 (.slice A6 (D++[0]).length c6);simpa using this
    ·rw[←hsn.out];exact nU hown1 (p:=⟨w.heap.size+1,1,none⟩) (fun e=>by have h:=(World.ownsRow.lt hown1 (w.heap.size+1) e).1;omega) _
   case measure=>simp[intOf];omega
  ·obtain rfl:k=n:=(by omega);have d0:=Blk.n0 m1;have d1:=Blk.n1 m1;have g0:=m1.frozen 0;have g1:=m1.frozen 1;rw[List.length_replicate]at hown;have hlr:(List.replicate k (0:Nat)).length=k:=List.length_replicate;have hq:=(m1.aD 0 (.int .i64 k)).aD 1 (.slice A k c);simp only[sA,sZ,sS]at hq;have y0:=Blk.n0 hq;have y1:=Blk.n1 hq;have hO:Hid (En Wr (w.heap.size+2) (.slice A k c) (dI k noE)):=hide (by rw[wW];exact hown);replace hlr:=hide hlr;go_wp2_with fail;refine bodyPost_ret (v:= .agg #[.int .i64 k,.slice A k c]) (by simp[results,Tryz.results194,go_sem,y0,y1]) rfl ⟨_,rfl,RG.mq ?_,(hbr.setCell (p:=⟨w.heap.size,0,none⟩) (by simp) _).setCell (p:=⟨w.heap.size,1,none⟩) (by simp) _⟩;have h1:=nU (nU hO.out (p:=⟨w.heap.size,0,none⟩) (fun e=>by have h:=(hO.out.lt _ e).1;dsimp only at h;omega) (.int .i64 k)) (p:=⟨w.heap.size,1,none⟩) (fun e=>by have h:=(hO.out.lt _ e).1;dsimp only at h;omega) (.slice A k c);exact own_base' h1 (by omega)
theorem Hz{p:Nat→Bool}{n b:Nat}(hb:b<n):Go.Inq.hasB (aV p n) (b:Int)=p b:=by
 rw[om,aP];simp[hb]
theorem RG.gr{W:World}{base n:Nat}{E:aj}{v:Value}(h:RG W base n E v)(hn:n≤64){K:Nat→Prop}(hK:∀g,base≤g→g<W.heap.size→K g):∃A c,v= .slice A n c∧GrS W K n A c E:=by
 rcases h with⟨h1,rfl⟩|⟨g,cap,cur,rfl,h2,h3,h4,h5,h6,h7⟩
 ·subst h1;exact⟨none,0,rfl,GrS.zero _ _ _ _ _⟩
 ·refine⟨_,cap,rfl,⟨?_,hn⟩⟩;refine⟨some ⟨g,0,none⟩,cap,(dI n E).map vG,by rw[aQ],by rw[aQ];exact h4,by simp,fun i cs x g1 g2=> ?_,fun _=>⟨g,0,rfl,hK g h2 h3.lt,fun i j cs u g1 g2=> ?_⟩⟩
  ·rw[List.getElem?_map,g2]at g1;injection g1 with g1
   exact⟨by rw[←g1];rfl,g1.symm⟩
  ·rw[List.getElem?_map]at g1;cases hx:(dI n E)[i]? with
   |none=>rw[hx]at g1;cases g1
   |some x=>
    rw[hx]at g1;injection g1 with g1
    subst g1;obtain⟨hi,he⟩:=List.getElem?_eq_some_iff.1 hx;have hi':i<n:=(by rw[aQ]at hi;exact hi);rw[fT hi']at he;cases j with
    |succ j=>simp[vG]at g2
    |zero=>
     simp[vG]at g2;subst g2;have:=(h3.cell i).trans (h7 i hi');rw[he]at this;simpa using this
theorem RG.add{W:World}{base n:Nat}{E:aj}{g cap:Nat}(h:RG W base n E (.slice (some ⟨g,0,none⟩) n cap)){x y:Nat}(hx:x<n)(hy:y<n)(hn:n≤64):
 RG (W.setCell ⟨g,x,none⟩ (.int .u64 (eU (aV (E x) n) (y:Int):Nat))) base n (orE E (gK x y)) (.slice (some ⟨g,0,none⟩) n cap):=by
 rcases h with⟨h1,h2⟩|⟨g',cap',cur,h1,h2,h3,h4,h5,h6,h7⟩
 ·cases h2
 ·simp only[Value.slice.injEq,Option.some.injEq,Addr.mk.injEq,and_true,true_and]at h1;obtain⟨rfl,rfl⟩:=h1;refine .inr ⟨g,cap,_,rfl,h2,h3.aD x _,h4,h5,by simp[h6],fun i hi=> ?_⟩;rw[ug hy hn];by_cases e:i=x
  ·subst e;rw[Array.getElem?_setIfInBounds_self_of_lt (by omega)];congr 3;refine dN fun b hb=> ?_;simp[orE,gK]
  ·rw[Array.getElem?_setIfInBounds_ne (by omega),h7 i hi];congr 3;refine dN fun b hb=> ?_;simp[orE,gK,e]
set_option maxRecDepth 100000 in
theorem fZ(n:Nat)(A:Option Addr)(c:Nat)(E:aj)(a b:Nat)(K:Nat→Prop)(w:World)(h:GrS w K n A c E)(hK:∀b,K b→b<w.heap.size)(ha:a<n)(hb:b<n):
 Calls Tryz.prog 142 #[.agg #[.int .i64 n,.slice A n c],.int .i64 (a:Int),.int .i64 (b:Int)] w fun e w'=>e= .returned (.bool (E a b))∧Below w.heap.size w w':=by
 have dG:=h.n64;obtain⟨g,off,rfl,hg,hc⟩:=h.at_ ha;have hgl:=hK _ hg;have hB:Below w.heap.size w (w.alloc (.cells #[.int .i64 n,.slice (some ⟨g,off,none⟩) n c] 140)):=(Below.refl _ _).alloc (Nat.le_refl _) _;have hc2:=(hB.cell (p:=⟨g,off+a,none⟩) hgl).trans hc;have hai:(a:Int)<(n:Int):=(by omega);have ha0:(0:Int)≤(a:Int):=Int.natCast_nonneg _;have hr:=hide (Hz (p:=E a) hb);have hs:=fA (p:=E a) dG;generalize aV (E a) n=x at*;clear h;replace hB:=hide hB;go_enter Tryz.func142,Tryz.ntmps142;go_wp2_with fail;refine(mQ x hs (b:Int) _).mono ?_;rw[hr.out];rintro e w1 ⟨rfl,rfl⟩;go_wp2;go_ret;exact⟨rfl,hB.out⟩
theorem Ce{p:Nat→Bool}{n b:Nat}(hb:n≤b):Go.Inq.hasB (aV p n) (b:Int)=false:=by
 rw[om,aP];simp;omega
set_option maxRecDepth 100000 in
theorem sD(n:Nat)(A:Option Addr)(c:Nat)(E:aj)(K:Nat→Prop)(w:World)(h:GrS w K n A c E)(hK:∀b,K b→b<w.heap.size):
 Calls Tryz.prog 140 #[.agg #[.int .i64 n,.slice A n c]] w fun e w'=>e= .returned (.bool true)∧Below w.heap.size w w':=by
 have dG:=h.n64;have hB:Below w.heap.size w (w.alloc (.cells #[.int .i64 n,.slice A n c] 140)):=(Below.refl _ _).alloc (Nat.le_refl _) _;have kG:=Blk.new w 140 #[.int .i64 n,.slice A n c];have hg:=hide (h.keep (Agree.below hB hK) (fun b hb=>hb));have h0:decide ((n:Int)<0)=false:=(by simp);have h1:decide ((n:Int)>64)=false:=(by simp;omega);clear h;go_enter Tryz.func140,Tryz.ntmps140;go_upto_region 1 with fail;generalize w.alloc (.cells #[.int .i64 n,.slice A n c] 140)=W at*;have c0:=Blk.n0 kG;have c1:=Blk.n1 kG;replace hB:=hide hB;clear kG;go_wp2_with fail
 go_loop [3] (fun s3=>∃i:Nat,i≤n∧s3= .int .i64 i) (fun s3=>n-(intOf s3).toNat)
 case atStart=>exact⟨0,Nat.zero_le _,by go_num⟩
 case round=>
  obtain⟨i,hi,rfl⟩:=hrel;have hi1:(0:Int)≤(i:Int):=Int.natCast_nonneg _;by_cases hlt:i<n
  ·have hi2:(i:Int)<(n:Int):=(by omega);obtain⟨g,off,rfl,hgk,hc⟩:=hg.out.at_ hlt;have hs:=fA (p:=E i) dG;have hbe:=hide (fun b hb=>Ce (p:=E i) (n:=n) (b:=b) hb);generalize aV (E i) n=x at*;go_wp2_with fail
   go_loop [4] (fun s4=>∃k:Nat,n≤k∧k≤64∧s4= .int .i64 k) (fun s4=>64-(intOf s4).toNat)
   case atStart=>exact⟨n,Nat.le_refl _,dG,rfl⟩
   case round=>
    obtain⟨k,hk,Sm,rfl⟩:=hrel;have hk1:(0:Int)≤(k:Int):=Int.natCast_nonneg _;by_cases hkl:k<64
    ·have hk2:decide ((k:Int)<64)=true:=(by simp;omega);have hf:=hide (hbe.out k hk);go_wp2_with fail;refine(mQ x hs (k:Int) _).mono ?_;rw[hf.out];rintro e w1 ⟨rfl,rfl⟩;go_wp2
     go_round
     case rel=>exact⟨k+1,by omega,by omega,by go_num⟩
     case measure=>simp[intOf];omega
    ·have hk2:decide ((k:Int)<64)=false:=(by simp;omega);go_wp2
     go_round
     case rel=>exact⟨i+1,by omega,by go_num⟩
     case measure=>simp[intOf];omega
  ·obtain rfl:i=n:=(by omega);go_wp2;go_ret;exact⟨rfl,hB.out⟩
end Go.Proofs.YtfhnamomiaekdaaGreatDoor
namespace Go.Proofs.YtfhnamomiaekdaaGreatDoor
open Go.RowKit Go.Inq
theorem aX{B:Nat}{w w1:World}(h:Below B w w1):Below B w w1.drew:=h.trans ⟨rfl,rfl,rfl,Nat.le_refl _,fun _ _=>rfl⟩
theorem RG.keep{W W':World}{B n:Nat}{E:aj}{v:Value}(h:RG W B n E v)(hk:∀g,B≤g→g<W.heap.size→W'.heap[g]?=W.heap[g]?):RG W' B n E v:=by
 rcases h with h|⟨g,cap,cur,h1,h2,h3,r⟩
 ·exact .inl h
 ·exact .inr ⟨g,cap,cur,h1,h2,(hk g h2 h3.lt).trans h3,r⟩
theorem RG.below{W W':World}{B B' n:Nat}{E:aj}{v:Value}(h:RG W B n E v)(hb:Below B' W W')(hB:W.heap.size≤B'):RG W' B n E v:=h.keep fun g _ hg=>hb.block g (by omega)
theorem RG.alloc{W:World}{B n:Nat}{E:aj}{v:Value}(h:RG W B n E v)(o:Obj):RG (W.alloc o) B n E v:=h.keep fun g _ hg=>Below.heap_alloc W o g hg
theorem RG.far{W:World}{B n:Nat}{E:aj}{v:Value}(h:RG W B n E v){p:Addr}(hp:p.block<B)(u:Value):RG (W.setCell p u) B n E v:=h.keep fun g hg _=>Below.heap_setCell W p u g (by omega)
theorem RG.drew{W:World}{B n:Nat}{E:aj}{v:Value}(h:RG W B n E v):RG W.drew B n E v:=h.keep fun _ _ _=>rfl
theorem RG.base{W:World}{B B' n:Nat}{E:aj}{v:Value}(h:RG W B n E v)(hB:B'≤B):RG W B' n E v:=by
 rcases h with h|⟨g,cap,cur,h1,h2,r⟩
 ·exact .inl h
 ·exact .inr ⟨g,cap,cur,h1,by omega,r⟩
theorem RG.congr{W:World}{base n:Nat}{E F:aj}{v:Value}(h:RG W base n E v)(hE:∀a b,a<n→b<n→E a b=F a b):RG W base n F v:=by
 rcases h with h|⟨g,cap,cur,h1,h2,h3,h4,h5,h6,h7⟩
 ·exact .inl h
 ·exact .inr ⟨g,cap,cur,h1,h2,h3,h4,h5,h6,fun i hi=>by rw[h7 i hi];congr 3;exact dN fun b hb=>hE i b hi hb⟩
structure RGP(W:World)(B p n:Nat)(E:aj)(A:Option Addr)(c:Nat):Prop where
 box:Blk W p 140 #[.int .i64 n,.slice A n c]
 rg:RG W B n E (.slice A n c)
 lt:∀g,A=some g→g.block<p
 n64:n≤64
section
variable{W W':World}{B p n:Nat}{E F:aj}{A:Option Addr}{c:Nat}
theorem RGP.plt(h:RGP W B p n E A c):p<W.heap.size:=h.box.lt
theorem RGP.c0(h:RGP W B p n E A c):W.cell? ⟨p,0,none⟩=some (.int .i64 n):=by simpa using h.box.cell 0
theorem RGP.c1(h:RGP W B p n E A c):W.cell? ⟨p,1,none⟩=some (.slice A n c):=by simpa using h.box.cell 1
theorem RGP.below(h:RGP W B p n E A c){B':Nat}(hb:Below B' W W')(hB:W.heap.size≤B'):RGP W' B p n E A c:=
 ⟨h.box.below hb (Nat.lt_of_lt_of_le h.plt hB),h.rg.below hb hB,h.lt,h.n64⟩
theorem RGP.alloc(h:RGP W B p n E A c)(o:Obj):RGP (W.alloc o) B p n E A c:=⟨h.box.alloc o,h.rg.alloc o,h.lt,h.n64⟩
theorem RGP.drew(h:RGP W B p n E A c):RGP W.drew B p n E A c:=⟨h.box.drew,h.rg.drew,h.lt,h.n64⟩
theorem RGP.drewN(h:RGP W B p n E A c)(k:Nat):RGP (W.drewN k) B p n E A c:=⟨h.box.drewN k,h.rg.keep fun _ _ _=>rfl,h.lt,h.n64⟩
theorem RGP.congr(h:RGP W B p n E A c)(hE:∀a b,a<n→b<n→E a b=F a b):RGP W B p n F A c:=⟨h.box,h.rg.congr hE,h.lt,h.n64⟩
structure RGX(W:World)(B p n x:Nat)(E:aj)(g c:Nat):Prop where
 box:RGP W B p n E (some ⟨g,0,none⟩) c
 c0:W.cell? ⟨p,0,none⟩=some (.int .i64 n)
 c1:W.cell? ⟨p,1,none⟩=some (.slice (some ⟨g,0,none⟩) n c)
 at_:W.cell? ⟨g,x,none⟩=some (.int .u64 (aV (E x) n:Nat))
 fr:W.frozen? ⟨g,x,none⟩=false
 gp:g<p
 gl:g<W.heap.size
 B:B≤g
 h64:aV (E x) n<18446744073709551616
theorem RGP.at_(h:RGP W B p n E A c){x:Nat}(hx:x<n):∃g,A=some ⟨g,0,none⟩∧RGX W B p n x E g c:=by
 rcases h.rg with⟨h1,_⟩|⟨g,cap,cur,h1,h2,h3,h4,h5,h6,h7⟩
 ·omega
 ·simp only[Value.slice.injEq,true_and]at h1;obtain⟨rfl,rfl⟩:=h1;exact⟨g,rfl,h,h.c0,h.c1,(h3.cell x).trans (h7 x hx),h3.frozen x,h.lt _ rfl,h3.lt,h2,fA h.n64⟩
theorem RGX.add{x:Nat}{g:Nat}(h:RGX W B p n x E g c){y:Nat}(hx:x<n)(hy:y<n):
 RGP (W.setCell ⟨g,x,none⟩ (.int .u64 (eU (aV (E x) n) (y:Int):Nat))) B p n (orE E (gK x y)) (some ⟨g,0,none⟩) c:=
 ⟨h.box.box.far (p:=⟨g,x,none⟩) (Nat.ne_of_gt h.gp) _,h.box.rg.add hx hy h.box.n64,h.box.lt,h.box.n64⟩
end
def eu(E:aj)(x y:Nat):aj:=fun a b=>E a b&&(decide (a<x)||(decide (a=x)&&decide (b<y)))
theorem xC(E:aj):eu E 0 0=noE:=by
 funext a b;simp[eu,noE]
theorem xD{E:aj}{x y:Nat}(h:E x y=true):eu E x (y+1)=orE (eu E x y) (gK x y):=by
 funext a b;unfold eu orE gK;rw[Bool.eq_iff_iff];simp;constructor
 ·rintro⟨h1,h2|⟨h2,h3⟩⟩
  ·exact .inl ⟨h1,.inl h2⟩
  ·rcases Nat.lt_or_ge b y with g|g
   ·exact .inl ⟨h1,.inr ⟨h2,g⟩⟩
   ·exact .inr ⟨h2,by omega⟩
 ·rintro(⟨h1,h2|⟨h2,h3⟩⟩|⟨rfl,rfl⟩)
  ·exact⟨h1,.inl h2⟩
  ·exact⟨h1,.inr ⟨h2,by omega⟩⟩
  ·exact⟨h,.inr ⟨rfl,by omega⟩⟩
theorem qU{E:aj}{x y:Nat}(h:E x y=false):eu E x (y+1)=eu E x y:=by
 funext a b;unfold eu;rw[Bool.eq_iff_iff];simp;intro h1;constructor
 ·rintro(h2|⟨rfl,h3⟩)
  ·exact .inl h2
  ·rcases Nat.lt_or_ge b y with g|g
   ·exact .inr ⟨rfl,g⟩
   ·obtain rfl:b=y:=(by omega);rw[h]at h1;cases h1
 ·rintro(h2|⟨rfl,h3⟩)
  ·exact .inl h2
  ·exact .inr ⟨rfl,by omega⟩
theorem zy{E:aj}{x n a b:Nat}(hb:b<n):eu E x n a b=eu E (x+1) 0 a b:=by
 unfold eu;rw[Bool.eq_iff_iff];simp;intro _;omega
theorem zA{E:aj}{n a b:Nat}(ha:a<n):eu E n 0 a b=E a b:=by
 unfold eu;simp[ha]
end Go.Proofs.YtfhnamomiaekdaaGreatDoor
namespace Go.Proofs.YtfhnamomiaekdaaGreatDoor
open Go.RowKit Go.Inq
set_option maxHeartbeats 8000000
attribute [local go_sem↓] Go.wp_at_zero Go.wp_at_succ
set_option maxRecDepth 100000 in
theorem mU(A:Option Addr)(c:Nat)(H:List Txn)(t:Nat)(key:Int)(w:World)(h:aF w (Old w) (.slice A H.length c) H)(hn:aB H)(ht:t<H.length):
 Calls Tryz.prog 300 #[.agg #[.slice A H.length c],.int .i64 (t:Int),.int .i64 key] w fun e w'=>e= .returned (.bool ((aL H t).writes.contains key))∧Below w.heap.size w w':=by
 obtain⟨W0,hW0⟩:∃W0,w.alloc (.cells #[.slice A H.length c] 24)=W0:=⟨_,rfl⟩;have hB:=ah (Below.refl w.heap.size w) hW0 (Nat.le_refl _);have k0:=Blk.newEq hW0;have hT:=h.below hB;have ht0:(0:Int)≤(t:Int):=Int.natCast_nonneg _;have ht1:(t:Int)<(H.length:Int):=(by omega);obtain⟨b,off,Aw,cw,Ar,cr,rfl,_,d0,d1,d2,hws,_⟩:=aF.at_ hT ht;have hwl:H[t].writes.length≤maxLen:=(by have:=(hn.2 _ (List.getElem_mem ht)).1;unfold maxLen;omega);have hc:=hide (gJ Aw cw H[t].writes key (Old W0) W0 hws hwl);rw[aO ht];generalize H[t].writes=L at*;generalize L.contains key=q at*;have c0:=Blk.n0 k0;replace hn:=hide hn;clear h hT hws;go_enter Tryz.func300,Tryz.ntmps300;go_wp2_with fail;clear hW0 c0 d0 d1 d2;refine hc.out.mono ?_;rintro e w1 ⟨rfl,rfl⟩;go_wp2;go_ret;exact⟨rfl,hB⟩
set_option maxRecDepth 100000 in
theorem Ep(A:Option Addr)(c:Nat)(H:List Txn)(x y:Nat)(v:Value)(w:World)(h:aF w (Old w) (.slice A H.length c) H)(hx:x<H.length)(hy:y<H.length):
 Calls Tryz.prog 294 #[.agg #[],.agg #[.slice A H.length c],.int .i64 (x:Int),.int .i64 (y:Int)] w fun e w'=>e= .returned (.bool (soE H x y))∧Below w.heap.size w w':=by
 have hx0:(0:Int)≤(x:Int):=Int.natCast_nonneg _;have hx1:(x:Int)<(H.length:Int):=(by omega);have hy0:(0:Int)≤(y:Int):=Int.natCast_nonneg _;have hy1:(y:Int)<(H.length:Int):=(by omega);have hso:soE H x y=(decide (x<y)&&decide (H[x].bL=H[y].bL)):=(by unfold soE;rw[aO hx,aO hy]);obtain⟨W0,hW0⟩:∃W0,(w.alloc (.cells #[] 317)).alloc (.cells #[.slice A H.length c] 24)=W0:=⟨_,rfl⟩;have hB:=aG hW0;have k1:=Blk.dQ hW0;have hT:=h.below hB;obtain⟨b,off,Aw,cw,Ar,cr,rfl,_,d0,-,-,-,-⟩:=aF.at_ hT hx;obtain⟨b',off',Aw',cw',Ar',cr',e',_,d1,-,-,-,-⟩:=aF.at_ hT hy;injection e' with e'
 injection e' with e1 e2
 subst e1 e2;have c0:=Blk.n0 k1;rw[hso];generalize H[x].bL=sx at*;generalize H[y].bL=sy at*;have hbz:=hide (fun(nq:Nat)=>(hB.trans ⟨rfl,rfl,rfl,Nat.le_refl _,fun _ _=>rfl⟩:Below w.heap.size w (W0.drewN nq)));clear h hT hso;by_cases hlt:x<y
 ·have g1:decide (x<y)=true:=(by simpa using hlt);rw[g1,Bool.true_and];by_cases he:sx=sy
  ·subst he;have g2:decide (sx=sx)=true:=(by simp);rw[g2];go_enter Tryz.func294,Tryz.ntmps294;go_wp2;go_quiet (fail);go_wp2;go_ret;exact⟨rfl,hbz.out _⟩
  ·have g2:(sx==sy)=false:=(by simpa using he);have g3:decide (sx=sy)=false:=(by simpa using he);rw[g3];clear he g3;go_enter Tryz.func294,Tryz.ntmps294;go_wp2;go_quiet (fail);go_wp2;go_ret;exact⟨rfl,hbz.out _⟩
 ·have g1:decide (x<y)=false:=(by simpa using hlt);rw[g1,Bool.false_and];clear hlt;go_enter Tryz.func294,Tryz.ntmps294;go_wp2;go_quiet (fail);go_wp2;go_ret;exact⟨rfl,hbz.out _⟩
theorem HV(r:It)(x:Nat)(bx:Nat)(w:World)(hbx:w.cell? ⟨bx,0,none⟩=some (.int .i64 (x:Int))):
 Calls Tryz.prog 296 #[.agg #[.int .i64 r.a,.int .i64 r.b],.pointer (some ⟨bx,0,none⟩)] w fun e w'=>e= .returned (.bool (decide (r.b=(x:Int))))∧Below w.heap.size w w':=by
 obtain⟨ra,rb⟩:=r;dsimp only;obtain⟨W0,hW0⟩:∃W0,w.alloc (.cells #[.int .i64 ra,.int .i64 rb] 106)=W0:=⟨_,rfl⟩;have hB:=ah (Below.refl w.heap.size w) hW0 (Nat.le_refl _);have k0:=Blk.newEq hW0;have Sn:=(hB.cell (p:=⟨bx,0,none⟩) (block_lt_of_cell hbx)).trans hbx;have c0:=Blk.n0 k0;have c1:=Blk.n1 k0;have hq:decide (rb=(x:Int))=(rb==(x:Int)):=(by rw[Bool.eq_iff_iff];simp);rw[hq];obtain⟨q,hqe⟩:∃q,(rb==(x:Int))=q:=⟨_,rfl⟩;rw[hqe];clear hq hbx;go_enter Tryz.func296,Tryz.ntmps296;go_wp2;go_ret;exact⟨rfl,hB⟩
set_option maxRecDepth 100000 in
theorem Er(A:Option Addr)(c:Nat)(H:List Txn)(x y:Nat)(w:World)(h:aF w (Old w) (.slice A H.length c) H)(hn:aB H)(hy:y<H.length):
 Calls Tryz.prog 295 #[.agg #[],.agg #[.slice A H.length c],.int .i64 (x:Int),.int .i64 (y:Int)] w fun e w'=>e= .returned (.bool (vJ H x y))∧Below w.heap.size w w':=by
 have hy0:(0:Int)≤(y:Int):=Int.natCast_nonneg _;have hy1:(y:Int)<(H.length:Int):=(by omega);obtain⟨W0,hW0⟩:∃W0,((w.alloc (.cells #[] 318)).alloc (.cells #[.slice A H.length c] 24)).alloc (.cells #[.int .i64 (x:Int)] 3)=W0:=⟨_,rfl⟩;have hB:=dY hW0;have k1:=Blk.mK hW0;have k2:=Blk.mM hW0;have hT:=h.below hB;obtain⟨b,off,Aw,cw,Ar,cr,rfl,_,d0,d1,d2,-,hrs⟩:=aF.at_ hT hy;have hrl:H[y].reads.length≤1000000:=(hn.2 _ (List.getElem_mem hy)).2;have hc:=hide (oH 296 (enters_of Tryz.func296 (by kernel_rfl) rfl) #[.pointer (some ⟨w.heap.size+1+1,0,none⟩)] (fun r=>decide (r.b=(x:Int))) Ar cr H[y].reads W0 hrs (by omega) (fun W hbW r _=>HV r x _ W (by have:=(k2.below hbW k2.lt).cell 0;simpa using this)));have hre:vJ H x y=H[y].reads.any fun r=>decide (r.b=(x:Int)):=(by unfold vJ;rw[aO hy]);rw[hre];generalize H[y].reads=R at*;generalize(R.any fun r=>decide (r.b=(x:Int)))=q at*;have c0:=Blk.n0 k1;clear h hT hrs hre;go_enter Tryz.func295,Tryz.ntmps295;go_wp2_with fail;refine hc.out.mono ?_;rintro e w1 ⟨rfl,hb1⟩;go_wp2;go_ret;exact⟨rfl,hB.trans (hb1.mono hB.size)⟩
set_option maxRecDepth 100000 in
theorem HY (A:Option Addr) (c:Nat) (H:List Txn) (ch:Cho) (x y:Nat) (bx by' bh:Nat) (w:World) (h:aF w (Old w) (.slice A H.length c) H) (hn:aB H) (hx:x<H.length) (hy:y<H.length)
 (hbx:w.cell? ⟨bx,0,none⟩=some (.int .i64 (x:Int))) (hby:w.cell? ⟨by',0,none⟩=some (.int .i64 (y:Int))) (hbh:w.cell? ⟨bh,0,none⟩=some (.slice A H.length c)):
 Calls Tryz.prog 299 #[.agg #[.int .i64 ch.key,.int .i64 ch.a,.int .i64 ch.b],.pointer (some ⟨bx,0,none⟩),.pointer (some ⟨by',0,none⟩),.pointer (some ⟨bh,0,none⟩)] w fun e w'=>e= .returned (.bool (jM H x y ch))∧Below w.heap.size w w':=by
 obtain⟨key,a,b⟩:=ch;dsimp only;obtain⟨W0,hW0⟩:∃W0,w.alloc (.cells #[.int .i64 key,.int .i64 a,.int .i64 b] 102)=W0:=⟨_,rfl⟩;have hB:=ah (Below.refl w.heap.size w) hW0 (Nat.le_refl _);have k0:=Blk.newEq hW0;have e0:=(hB.cell (p:=⟨bx,0,none⟩) (block_lt_of_cell hbx)).trans hbx;have e1:=(hB.cell (p:=⟨by',0,none⟩) (block_lt_of_cell hby)).trans hby;have e2:=(hB.cell (p:=⟨bh,0,none⟩) (block_lt_of_cell hbh)).trans hbh;have hT:=hide (h.below hB);have c0:=Blk.n0 k0;have c1:=Blk.n1 k0;have c2:=Blk.n2 k0;have hp:Hid (jM H x y ⟨key,a,b⟩=(decide (a=(x:Int))&&decide (b=(y:Int))&&decide (x≠y)&&(aL H x).writes.contains key&&(aL H y).writes.contains key)):=hide rfl;obtain⟨r,hr⟩:∃r,jM H x y ⟨key,a,b⟩=r:=⟨_,rfl⟩;rw[hr]at hp;rw[hr];clear h hbx hby hbh hr;by_cases h1:a=(x:Int)
 ·have g1:(a==(x:Int))=true:=(by simpa using h1);by_cases h2:b=(y:Int)
  ·have g2:(b==(y:Int))=true:=(by simpa using h2);by_cases h3:x=y
   ·have hre:r=false:=(by rw[hp.out];simp[h3]);have g3:((x:Int) !=(y:Int))=false:=(by simp[h3]);have g4:(x !=y)=false:=(by simp[h3]);subst hre;clear h1 h2 h3;clear hp;go_enter Tryz.func299,Tryz.ntmps299;go_wp2;go_ret;exact⟨rfl,hB⟩
   ·have g3:((x:Int) !=(y:Int))=true:=(by simp;omega);have g4:(x !=y)=true:=(by simp[h3]);have hp2:=hide (show r=((aL H x).writes.contains key&&(aL H y).writes.contains key) by rw[hp.out];simp[h1,h2,h3]);have hw1:=hide (mU A c H x key W0 hT.out hn hx);have hw2:=hide (fun W (hb:Below W0.heap.size W0 W)=>mU A c H y key W (hT.out.below hb) hn hy);generalize(aL H x).writes.contains key=q1 at*;generalize(aL H y).writes.contains key=q2 at*;clear h1 h2 h3 hp;go_enter Tryz.func299,Tryz.ntmps299;go_wp2_with fail;refine hw1.out.mono ?_;rintro e w1 ⟨rfl,hb1⟩;have e1':=(hb1.cell (p:=⟨by',0,none⟩) (block_lt_of_cell e1)).trans e1;have e2':=(hb1.cell (p:=⟨bh,0,none⟩) (block_lt_of_cell e2)).trans e2;have c0':=(hb1.cell (p:=⟨w.heap.size,0,none⟩) k0.lt).trans c0;have hw3:=hide (hw2.out w1 hb1);have hb2:=hB.trans (hb1.mono hB.size);clear hW0 hw1 hw2 e0 e1 e2 c0 c1 c2;cases q1 with
    |false=>
     have hre:r=false:=(by rw[hp2.out];rfl);subst hre;clear hp2;go_wp2;go_ret;exact⟨rfl,hb2⟩
    |true=>
     have hre:r=q2:=(by rw[hp2.out];rfl);subst hre;clear hp2;go_wp2_with fail;refine hw3.out.mono ?_;rintro e w2 ⟨rfl,hb3⟩;go_wp2;go_ret;exact⟨rfl,hb2.trans (hb3.mono hb2.size)⟩
  ·have g2:(b==(y:Int))=false:=(by simpa using h2);have hre:r=false:=(by rw[hp.out];simp[h2]);subst hre;clear h1 h2;clear hp;go_enter Tryz.func299,Tryz.ntmps299;go_wp2;go_ret;exact⟨rfl,hB⟩
 ·have g1:(a==(x:Int))=false:=(by simpa using h1);have hre:r=false:=(by rw[hp.out];simp[h1]);subst hre;clear h1;clear hp;go_enter Tryz.func299,Tryz.ntmps299;go_wp2;go_ret;exact⟨rfl,hB⟩
set_option maxRecDepth 100000 in
theorem Es(A:Option Addr)(c:Nat)(H:List Txn)(Al:Option Addr)(cl:Nat)(l:List Cho)(x y:Nat)(w:World)(h:aF w (Old w) (.slice A H.length c) H)(hn:aB H)(hl:bq w (Old w) (.slice Al l.length cl) l)(hln:l.length≤1000000000)(hx:x<H.length)(hy:y<H.length):
 Calls Tryz.prog 297 #[.slice Al l.length cl,.agg #[.slice A H.length c],.int .i64 (x:Int),.int .i64 (y:Int)] w fun e w'=>e= .returned (.bool (lM H l x y))∧Below w.heap.size w w':=by
 obtain⟨W0,hW0⟩:∃W0,((w.alloc (.cells #[.slice A H.length c] 24)).alloc (.cells #[.int .i64 (x:Int)] 3)).alloc (.cells #[.int .i64 (y:Int)] 3)=W0:=⟨_,rfl⟩;have hB:=dY hW0;have k0:=Blk.oz hW0;have k1:=Blk.mK hW0;have k2:=Blk.mM hW0;have hT:=hide (h.below hB);have hc:=hide (xg 299 (enters_of Tryz.func299 (by kernel_rfl) rfl) #[.pointer (some ⟨w.heap.size+1,0,none⟩),.pointer (some ⟨w.heap.size+1+1,0,none⟩),.pointer (some ⟨w.heap.size,0,none⟩)] (jM H x y) Al cl l W0 (hl.below hB) hln (fun W hbW ch _=>HY A c H ch x y _ _ _ W (hT.out.below hbW) hn hx hy (by have:=(k1.below hbW k1.lt).cell 0;simpa using this) (by have:=(k2.below hbW k2.lt).cell 0;simpa using this) (by have:=(k0.below hbW k0.lt).cell 0;simpa using this)));have hre:Hid (lM H l x y=l.any (jM H x y)):=hide rfl;rw[hre.out];generalize l.any (jM H x y)=q at*;clear h hl hre;go_enter Tryz.func297,Tryz.ntmps297;go_wp2_with fail;refine hc.out.mono ?_;rintro e w1 ⟨rfl,hb1⟩;go_wp2;go_ret;exact⟨rfl,hB.trans (hb1.mono hB.size)⟩
set_option maxHeartbeats 2000000
theorem Kt(x:Cho)(k a b:Int):decide (x=⟨k,a,b⟩)=(decide (x.key=k)&&decide (x.a=a)&&decide (x.b=b)):=by
 obtain⟨k',a',b'⟩:=x;rw[Bool.eq_iff_iff];simp[and_assoc]
theorem Cg(A:Option Addr)(c:Nat)(l:List Cho)(xk xa xb:Int)(w:World)(h:bq w (Old w) (.slice A l.length c) l)(hl:l.length≤1000000000):
 Calls Tryz.prog 305 #[.slice A l.length c,.agg #[.int .i64 xk,.int .i64 xa,.int .i64 xb]] w fun e w'=>e= .returned (.int .i64 (uj (fun x:Cho=>decide (x=⟨xk,xa,xb⟩)) l))∧Below w.heap.size w w':=by
 have hhit:=hide (fun k=>jK (p:=fun x:Cho=>decide (x=⟨xk,xa,xb⟩)) (l:=l) (k:=k));have hnone:=hide (iQ (p:=fun x:Cho=>decide (x=⟨xk,xa,xb⟩)) (l:=l));obtain⟨W0,hW0⟩:∃W0,w.alloc (.cells #[.int .i64 xk,.int .i64 xa,.int .i64 xb] 102)=W0:=⟨_,rfl⟩;have hB:=ah (Below.refl w.heap.size w) hW0 (Nat.le_refl _);have k0:=Blk.newEq hW0;replace h:=hide h;go_enter Tryz.func305,Tryz.ntmps305;go_wp2_with fail;clear hW0;go_loopw [8] (fun s8 wr=>∃k:Nat,k≤l.length∧s8= .int .i64 k∧Hid (∀j (hj:j<l.length),j<k→decide (l[j]=⟨xk,xa,xb⟩)=false)∧Below w.heap.size w wr∧Blk wr w.heap.size 102 #[.int .i64 xk,.int .i64 xa,.int .i64 xb]) (fun s8 _=>l.length-(intOf s8).toNat);case atStart=>exact⟨0,Nat.zero_le _,by go_num,fun j hj h=>absurd h (by omega),hB,k0⟩
 case round=>
  clear k0 hB;obtain⟨k,hk,rfl,hall,hb,k0⟩:=hrel;have hk1:(0:Int)≤(k:Int):=Int.natCast_nonneg _;by_cases hlt:k<l.length
  ·have hi2:(k:Int)<(l.length:Int):=(by omega);obtain⟨b,off,rfl,_,d0,d1,d2⟩:=(h.out.below hb).at_ hlt;have hh:=hide (fun g=>hhit.out k hlt g hall.out);have hst:Hid (decide (l[k]=⟨xk,xa,xb⟩)=false→∀j (hj:j<l.length),j<k+1→decide (l[j]=⟨xk,xa,xb⟩)=false):=fun g j hj hjk=>by
    by_cases e:j=k
    ·subst e;exact g
    ·exact hall.out j hj (by omega)
   have c0:=Blk.n0 k0;have c1:=Blk.n1 k0;have c2:=Blk.n2 k0;clear hall;generalize l[k]=x at*;obtain⟨yk,ya,yb⟩:=x;dsimp only at*;rw[Kt]at hh hst;dsimp only at hh hst;by_cases q0:xk=yk
   ·have q0b:(xk==yk)=true:=(by simpa using q0);by_cases q1:xa=ya
    ·have q1b:(xa==ya)=true:=(by simpa using q1);by_cases q2:xb=yb
     ·have q2b:(xb==yb)=true:=(by simpa using q2);have hr:=hide (hh.out (by simp[q0,q1,q2]));clear q0 q1 q2 hh hst;go_wp2;go_quiet (fail);go_wp2;go_ret;exact⟨dP hr.out.symm,hb.trans ⟨rfl,rfl,rfl,Nat.le_refl _,fun _ _=>rfl⟩⟩
     ·have q2b:(xb==yb)=false:=(by simpa using q2);have hr:=hide (hst.out (by simp[q0,q1,Ne.symm q2]));clear q0 q1 q2;clear hh hst;go_wp2;go_quiet (fail);go_wp2;go_roundw;case rel=>exact⟨k+1,by omega,by go_num,hr,hb.trans ⟨rfl,rfl,rfl,Nat.le_refl _,fun _ _=>rfl⟩,k0⟩
      case measure=>simp[intOf];omega
    ·have q1b:(xa==ya)=false:=(by simpa using q1);have hr:=hide (hst.out (by simp[Ne.symm q1]));clear q0 q1;clear hh hst;go_wp2;go_quiet (fail);go_wp2;go_roundw;case rel=>exact⟨k+1,by omega,by go_num,hr,hb.trans ⟨rfl,rfl,rfl,Nat.le_refl _,fun _ _=>rfl⟩,k0⟩
     case measure=>simp[intOf];omega
   ·have q0b:(xk==yk)=false:=(by simpa using q0);have hr:=hide (hst.out (by simp[Ne.symm q0]));clear q0;clear hh hst;go_wp2;go_quiet (fail);go_wp2;go_roundw;case rel=>exact⟨k+1,by omega,by go_num,hr,hb.trans ⟨rfl,rfl,rfl,Nat.le_refl _,fun _ _=>rfl⟩,k0⟩
    case measure=>simp[intOf];omega
  ·have hr:=hide (hnone.out fun j hj=>hall.out j hj (by omega));go_wp2;go_ret;exact⟨dP hr.out.symm,hb⟩
theorem xE(A:Option Addr)(c:Nat)(l:List Cho)(xk xa xb:Int)(w:World)(h:bq w (Old w) (.slice A l.length c) l)(hl:l.length≤1000000000):
 Calls Tryz.prog 304 #[.slice A l.length c,.agg #[.int .i64 xk,.int .i64 xa,.int .i64 xb]] w fun e w'=>e= .returned (.bool (l.any fun x=>decide (x=⟨xk,xa,xb⟩)))∧Below w.heap.size w w':=by
 have hd:=hide (jL (fun x:Cho=>decide (x=⟨xk,xa,xb⟩)) l);obtain⟨W0,hW0⟩:∃W0,w.alloc (.cells #[.int .i64 xk,.int .i64 xa,.int .i64 xb] 102)=W0:=⟨_,rfl⟩;have hB:=ah (Below.refl w.heap.size w) hW0 (Nat.le_refl _);have h0:=h.below hB;have hcall:=hide (Cg A c l xk xa xb W0 h0 hl);have k0:=Blk.newEq hW0;clear h h0;have c0:=Blk.n0 k0;have c1:=Blk.n1 k0;have c2:=Blk.n2 k0;go_enter Tryz.func304,Tryz.ntmps304;go_wp2_with fail;clear hW0 c0 c1 c2;refine hcall.out.mono ?_;rintro e w1 ⟨rfl,hb⟩;clear hcall;go_wp2;go_ret;exact⟨by rw[←hd.out];rfl,hB.trans (hb.mono hB.size)⟩
theorem Ch(A:Option Addr)(c:Nat)(l:List Cho)(xk xa xb:Int)(w:World)(h:bq w (Old w) (.slice A l.length c) l)(hl:l.length≤1000000000):
 Calls Tryz.prog 117 #[.slice A l.length c,.agg #[.int .i64 xk,.int .i64 xa,.int .i64 xb]] w fun e w'=>e= .returned (.int .i64 (uj (fun x:Cho=>decide (x=⟨xk,xa,xb⟩)) l))∧Below w.heap.size w w':=by
 have hhit:=hide (fun k=>jK (p:=fun x:Cho=>decide (x=⟨xk,xa,xb⟩)) (l:=l) (k:=k));have hnone:=hide (iQ (p:=fun x:Cho=>decide (x=⟨xk,xa,xb⟩)) (l:=l));obtain⟨W0,hW0⟩:∃W0,w.alloc (.cells #[.int .i64 xk,.int .i64 xa,.int .i64 xb] 102)=W0:=⟨_,rfl⟩;have hB:=ah (Below.refl w.heap.size w) hW0 (Nat.le_refl _);have k0:=Blk.newEq hW0;replace h:=hide h;go_enter Tryz.func117,Tryz.ntmps117;go_wp2_with fail;clear hW0;go_loopw [8] (fun s8 wr=>∃k:Nat,k≤l.length∧s8= .int .i64 k∧Hid (∀j (hj:j<l.length),j<k→decide (l[j]=⟨xk,xa,xb⟩)=false)∧Below w.heap.size w wr∧Blk wr w.heap.size 102 #[.int .i64 xk,.int .i64 xa,.int .i64 xb]) (fun s8 _=>l.length-(intOf s8).toNat);case atStart=>exact⟨0,Nat.zero_le _,by go_num,fun j hj h=>absurd h (by omega),hB,k0⟩
 case round=>
  clear k0 hB;obtain⟨k,hk,rfl,hall,hb,k0⟩:=hrel;have hk1:(0:Int)≤(k:Int):=Int.natCast_nonneg _;by_cases hlt:k<l.length
  ·have hi2:(k:Int)<(l.length:Int):=(by omega);obtain⟨b,off,rfl,_,d0,d1,d2⟩:=(h.out.below hb).at_ hlt;have hh:=hide (fun g=>hhit.out k hlt g hall.out);have hst:Hid (decide (l[k]=⟨xk,xa,xb⟩)=false→∀j (hj:j<l.length),j<k+1→decide (l[j]=⟨xk,xa,xb⟩)=false):=fun g j hj hjk=>by
    by_cases e:j=k
    ·subst e;exact g
    ·exact hall.out j hj (by omega)
   have c0:=Blk.n0 k0;have c1:=Blk.n1 k0;have c2:=Blk.n2 k0;clear hall;generalize l[k]=x at*;obtain⟨yk,ya,yb⟩:=x;dsimp only at*;rw[Kt]at hh hst;dsimp only at hh hst;by_cases q0:xk=yk
   ·have q0b:(xk==yk)=true:=(by simpa using q0);by_cases q1:xa=ya
    ·have q1b:(xa==ya)=true:=(by simpa using q1);by_cases q2:xb=yb
     ·have q2b:(xb==yb)=true:=(by simpa using q2);have hr:=hide (hh.out (by simp[q0,q1,q2]));clear q0 q1 q2 hh hst;go_wp2;go_quiet (fail);go_wp2;go_ret;exact⟨dP hr.out.symm,hb.trans ⟨rfl,rfl,rfl,Nat.le_refl _,fun _ _=>rfl⟩⟩
     ·have q2b:(xb==yb)=false:=(by simpa using q2);have hr:=hide (hst.out (by simp[q0,q1,Ne.symm q2]));clear q0 q1 q2;clear hh hst;go_wp2;go_quiet (fail);go_wp2;go_roundw;case rel=>exact⟨k+1,by omega,by go_num,hr,hb.trans ⟨rfl,rfl,rfl,Nat.le_refl _,fun _ _=>rfl⟩,k0⟩
      case measure=>simp[intOf];omega
    ·have q1b:(xa==ya)=false:=(by simpa using q1);have hr:=hide (hst.out (by simp[Ne.symm q1]));clear q0 q1;clear hh hst;go_wp2;go_quiet (fail);go_wp2;go_roundw;case rel=>exact⟨k+1,by omega,by go_num,hr,hb.trans ⟨rfl,rfl,rfl,Nat.le_refl _,fun _ _=>rfl⟩,k0⟩
     case measure=>simp[intOf];omega
   ·have q0b:(xk==yk)=false:=(by simpa using q0);have hr:=hide (hst.out (by simp[Ne.symm q0]));clear q0;clear hh hst;go_wp2;go_quiet (fail);go_wp2;go_roundw;case rel=>exact⟨k+1,by omega,by go_num,hr,hb.trans ⟨rfl,rfl,rfl,Nat.le_refl _,fun _ _=>rfl⟩,k0⟩
    case measure=>simp[intOf];omega
  ·have hr:=hide (hnone.out fun j hj=>hall.out j hj (by omega));go_wp2;go_ret;exact⟨dP hr.out.symm,hb⟩
theorem jO(A:Option Addr)(c:Nat)(l:List Cho)(xk xa xb:Int)(w:World)(h:bq w (Old w) (.slice A l.length c) l)(hl:l.length≤1000000000):
 Calls Tryz.prog 55 #[.slice A l.length c,.agg #[.int .i64 xk,.int .i64 xa,.int .i64 xb]] w fun e w'=>e= .returned (.bool (l.any fun x=>decide (x=⟨xk,xa,xb⟩)))∧Below w.heap.size w w':=by
 have hd:=hide (jL (fun x:Cho=>decide (x=⟨xk,xa,xb⟩)) l);obtain⟨W0,hW0⟩:∃W0,w.alloc (.cells #[.int .i64 xk,.int .i64 xa,.int .i64 xb] 102)=W0:=⟨_,rfl⟩;have hB:=ah (Below.refl w.heap.size w) hW0 (Nat.le_refl _);have h0:=h.below hB;have hcall:=hide (Ch A c l xk xa xb W0 h0 hl);have k0:=Blk.newEq hW0;clear h h0;have c0:=Blk.n0 k0;have c1:=Blk.n1 k0;have c2:=Blk.n2 k0;go_enter Tryz.func55,Tryz.ntmps55;go_wp2_with fail;clear hW0 c0 c1 c2;refine hcall.out.mono ?_;rintro e w1 ⟨rfl,hb⟩;clear hcall;go_wp2;go_ret;exact⟨by rw[←hd.out];rfl,hB.trans (hb.mono hB.size)⟩
set_option maxHeartbeats 8000000
set_option maxRecDepth 100000 in
theorem HZ (A:Option Addr) (c:Nat) (H:List Txn) (Al:Option Addr) (cl:Nat) (l:List Cho) (r:It) (y:Nat) (bh by' bl:Nat) (w:World) (h:aF w (Old w) (.slice A H.length c) H) (hn:aB H) (hl:bq w (Old w) (.slice Al l.length cl) l) (hln:l.length≤1000000000) (hy:y<H.length)
 (hbh:w.cell? ⟨bh,0,none⟩=some (.slice A H.length c)) (hby:w.cell? ⟨by',0,none⟩=some (.int .i64 (y:Int))) (hbl:w.cell? ⟨bl,0,none⟩=some (.slice Al l.length cl)):
 Calls Tryz.prog 303 #[.agg #[.int .i64 r.a,.int .i64 r.b],.pointer (some ⟨bh,0,none⟩),.pointer (some ⟨by',0,none⟩),.pointer (some ⟨bl,0,none⟩)] w fun e w'=>e= .returned (.bool (jN H l y r))∧Below w.heap.size w w':=by
 obtain⟨ra,rb⟩:=r;dsimp only;obtain⟨W0,hW0⟩:∃W0,w.alloc (.cells #[.int .i64 ra,.int .i64 rb] 106)=W0:=⟨_,rfl⟩;have hB:=ah (Below.refl w.heap.size w) hW0 (Nat.le_refl _);have k0:=Blk.newEq hW0;have e0:=(hB.cell (p:=⟨bh,0,none⟩) (block_lt_of_cell hbh)).trans hbh;have e1:=(hB.cell (p:=⟨by',0,none⟩) (block_lt_of_cell hby)).trans hby;have e2:=(hB.cell (p:=⟨bl,0,none⟩) (block_lt_of_cell hbl)).trans hbl;have hT:=h.below hB;have hL:=hide (hl.below hB);have c0:=Blk.n0 k0;have c1:=Blk.n1 k0;have hp:Hid (jN H l y ⟨ra,rb⟩=((aL H y).writes.contains ra&&(decide (rb<0)||(decide (rb≠(y:Int))&&l.any fun c=>decide (c=⟨ra,rb,y⟩))))):=hide rfl;obtain⟨q,hq⟩:∃q,jN H l y ⟨ra,rb⟩=q:=⟨_,rfl⟩;rw[hq]at hp;rw[hq];have hw1:=hide (mU A c H y ra W0 hT hn hy);have hco:=hide (fun W (hb:Below W0.heap.size W0 W)=>xE Al cl l ra rb (y:Int) W (hL.out.below hb) hln);generalize(aL H y).writes.contains ra=q1 at*;generalize(l.any fun c=>decide (c=⟨ra,rb,(y:Int)⟩))=q2 at*;clear h hl hbh hby hbl hq hT;go_enter Tryz.func303,Tryz.ntmps303;go_wp2_with fail;refine hw1.out.mono ?_;rintro e w1 ⟨rfl,hb1⟩;have hb2:=hB.trans (hb1.mono hB.size);have c0':=(hb1.cell (p:=⟨w.heap.size,0,none⟩) k0.lt).trans c0;have c1':=(hb1.cell (p:=⟨w.heap.size,1,none⟩) k0.lt).trans c1;have e1':=(hb1.cell (p:=⟨by',0,none⟩) (block_lt_of_cell e1)).trans e1;have e2':=(hb1.cell (p:=⟨bl,0,none⟩) (block_lt_of_cell e2)).trans e2;have hc2:=hide (hco.out w1 hb1);clear hW0 hw1 hco c0 c1 e0 e1 e2;cases q1 with
 |false=>
  have hre:q=false:=(by rw[hp.out];rfl);subst hre;clear hp hc2;go_wp2;go_ret;exact⟨rfl,hb2⟩
 |true=>
  by_cases h1:rb<0
  ·have hre:q=true:=(by rw[hp.out,decide_eq_true h1];rfl);have g1:decide (rb<0)=true:=(by simpa using h1);subst hre;clear hp hc2;go_wp2;go_ret;exact⟨rfl,hb2⟩
  ·have g1:decide (rb<0)=false:=(by simpa using h1);by_cases h2:rb=(y:Int)
   ·have hre:q=false:=(by rw[hp.out,decide_eq_false h1];simp[h2]);have g2:(rb !=(y:Int))=false:=(by simp[h2]);subst hre;clear hp hc2 h1 h2;go_wp2;go_ret;exact⟨rfl,hb2⟩
   ·have hre:q=q2:=(by rw[hp.out,decide_eq_false h1];simp[h2]);have g2:(rb !=(y:Int))=true:=(by simpa using h2);subst hre;clear hp h1 h2;go_wp2_with fail;refine hc2.out.mono ?_;rintro e w2 ⟨rfl,hb3⟩;go_wp2;go_ret;exact⟨rfl,hb2.trans (hb3.mono hb2.size)⟩
set_option maxRecDepth 100000 in
theorem Et(A:Option Addr)(c:Nat)(H:List Txn)(Al:Option Addr)(cl:Nat)(l:List Cho)(x y:Nat)(w:World)(h:aF w (Old w) (.slice A H.length c) H)(hn:aB H)(hl:bq w (Old w) (.slice Al l.length cl) l)(hln:l.length≤1000000000)(hx:x<H.length)(hy:y<H.length):
 Calls Tryz.prog 302 #[.slice Al l.length cl,.agg #[.slice A H.length c],.int .i64 (x:Int),.int .i64 (y:Int)] w fun e w'=>e= .returned (.bool (oI H l x y))∧Below w.heap.size w w':=by
 have hx0:(0:Int)≤(x:Int):=Int.natCast_nonneg _;have hx1:(x:Int)<(H.length:Int):=(by omega);obtain⟨W0,hW0⟩:∃W0,((w.alloc (.cells #[.slice Al l.length cl] 334)).alloc (.cells #[.slice A H.length c] 24)).alloc (.cells #[.int .i64 (y:Int)] 3)=W0:=⟨_,rfl⟩;have hB:=dY hW0;have k0:=Blk.oz hW0;have k1:=Blk.mK hW0;have k2:=Blk.mM hW0;have hT:=hide (h.below hB);have hL:=hide (hl.below hB);obtain⟨b,off,Aw,cw,Ar,cr,rfl,_,d0,d1,d2,-,hrs⟩:=aF.at_ hT.out hx;have hrl:H[x].reads.length≤1000000:=(hn.2 _ (List.getElem_mem hx)).2;have hc:=hide (oH 303 (enters_of Tryz.func303 (by kernel_rfl) rfl) #[.pointer (some ⟨w.heap.size+1,0,none⟩),.pointer (some ⟨w.heap.size+1+1,0,none⟩),.pointer (some ⟨w.heap.size,0,none⟩)] (jN H l y) Ar cr H[x].reads W0 hrs (by omega) (fun W hbW r _=>HZ _ c H Al cl l r y _ _ _ W (hT.out.below hbW) hn (hL.out.below hbW) hln hy (by have:=(k1.below hbW k1.lt).cell 0;simpa using this) (by have:=(k2.below hbW k2.lt).cell 0;simpa using this) (by have:=(k0.below hbW k0.lt).cell 0;simpa using this)));have hre:oI H l x y=(decide (x≠y)&&H[x].reads.any (jN H l y)):=(by unfold oI;rw[aO hx]);rw[hre];generalize H[x].reads=R at*;generalize R.any (jN H l y)=q at*;have c0:=Blk.n0 k1;have c1:=Blk.n0 k2;clear h hl hrs hre;by_cases hxy:x=y
 ·have g1:((x:Int) !=(y:Int))=false:=(by simp[hxy]);have g2:(x !=y)=false:=(by simp[hxy]);have hq:(decide (x≠y)&&q)=false:=(by simp[hxy]);rw[hq];clear hc hxy hq;go_enter Tryz.func302,Tryz.ntmps302;go_wp2;go_ret;exact⟨rfl,hB⟩
 ·have g1:((x:Int) !=(y:Int))=true:=(by simp;omega);have g2:(x !=y)=true:=(by simp[hxy]);have hq:(decide (x≠y)&&q)=q:=(by simp[hxy]);rw[hq];clear hxy hq;go_enter Tryz.func302,Tryz.ntmps302;go_wp2_with fail;refine hc.out.mono ?_;rintro e w1 ⟨rfl,hb1⟩;go_wp2;go_ret;exact⟨rfl,hB.trans (hb1.mono hB.size)⟩
set_option maxRecDepth 100000 in
theorem H6 (A:Option Addr) (c:Nat) (H:List Txn) (Al:Option Addr) (cl:Nat) (l:List Cho) (x y:Nat) (bh bx by':Nat) (w:World) (h:aF w (Old w) (.slice A H.length c) H) (hn:aB H) (hl:bq w (Old w) (.slice Al l.length cl) l) (hln:l.length≤1000000000) (hx:x<H.length) (hy:y<H.length)
 (hbh:w.cell? ⟨bh,0,none⟩=some (.slice A H.length c)) (hbx:w.cell? ⟨bx,0,none⟩=some (.int .i64 (x:Int))) (hby:w.cell? ⟨by',0,none⟩=some (.int .i64 (y:Int))):
 Calls Tryz.prog 274 #[.iface 317 (.agg #[]),.pointer (some ⟨bh,0,none⟩),.pointer (some ⟨bx,0,none⟩),.pointer (some ⟨by',0,none⟩)] w fun e w'=>e= .returned (.bool (soE H x y))∧Below w.heap.size w w':=by
 have hc:=hide (Ep A c H x y undef w h hx hy);clear h hl;go_enter Tryz.func274,Tryz.ntmps274;go_wp2_with fail;refine hc.out.mono ?_;rintro e w1 ⟨rfl,hb1⟩;go_wp2;go_ret;exact⟨rfl,hb1⟩
set_option maxRecDepth 100000 in
theorem H7 (A:Option Addr) (c:Nat) (H:List Txn) (Al:Option Addr) (cl:Nat) (l:List Cho) (x y:Nat) (bh bx by':Nat) (w:World) (h:aF w (Old w) (.slice A H.length c) H) (hn:aB H) (hl:bq w (Old w) (.slice Al l.length cl) l) (hln:l.length≤1000000000) (hx:x<H.length) (hy:y<H.length)
 (hbh:w.cell? ⟨bh,0,none⟩=some (.slice A H.length c)) (hbx:w.cell? ⟨bx,0,none⟩=some (.int .i64 (x:Int))) (hby:w.cell? ⟨by',0,none⟩=some (.int .i64 (y:Int))):
 Calls Tryz.prog 274 #[.iface 318 (.agg #[]),.pointer (some ⟨bh,0,none⟩),.pointer (some ⟨bx,0,none⟩),.pointer (some ⟨by',0,none⟩)] w fun e w'=>e= .returned (.bool (vJ H x y))∧Below w.heap.size w w':=by
 have hc:=hide (Er A c H x y w h hn hy);clear h hl;go_enter Tryz.func274,Tryz.ntmps274;go_wp2_with fail;refine hc.out.mono ?_;rintro e w1 ⟨rfl,hb1⟩;go_wp2;go_ret;exact⟨rfl,hb1⟩
set_option maxRecDepth 100000 in
theorem H8 (A:Option Addr) (c:Nat) (H:List Txn) (Al:Option Addr) (cl:Nat) (l:List Cho) (x y:Nat) (bh bx by':Nat) (w:World) (h:aF w (Old w) (.slice A H.length c) H) (hn:aB H) (hl:bq w (Old w) (.slice Al l.length cl) l) (hln:l.length≤1000000000) (hx:x<H.length) (hy:y<H.length)
 (hbh:w.cell? ⟨bh,0,none⟩=some (.slice A H.length c)) (hbx:w.cell? ⟨bx,0,none⟩=some (.int .i64 (x:Int))) (hby:w.cell? ⟨by',0,none⟩=some (.int .i64 (y:Int))):
 Calls Tryz.prog 274 #[.iface 319 (.slice Al l.length cl),.pointer (some ⟨bh,0,none⟩),.pointer (some ⟨bx,0,none⟩),.pointer (some ⟨by',0,none⟩)] w fun e w'=>e= .returned (.bool (lM H l x y))∧Below w.heap.size w w':=by
 have hc:=hide (Es A c H Al cl l x y w h hn hl hln hx hy);clear h hl;go_enter Tryz.func274,Tryz.ntmps274;go_wp2_with fail;refine hc.out.mono ?_;rintro e w1 ⟨rfl,hb1⟩;go_wp2;go_ret;exact⟨rfl,hb1⟩
set_option maxRecDepth 100000 in
theorem H9 (A:Option Addr) (c:Nat) (H:List Txn) (Al:Option Addr) (cl:Nat) (l:List Cho) (x y:Nat) (bh bx by':Nat) (w:World) (h:aF w (Old w) (.slice A H.length c) H) (hn:aB H) (hl:bq w (Old w) (.slice Al l.length cl) l) (hln:l.length≤1000000000) (hx:x<H.length) (hy:y<H.length)
 (hbh:w.cell? ⟨bh,0,none⟩=some (.slice A H.length c)) (hbx:w.cell? ⟨bx,0,none⟩=some (.int .i64 (x:Int))) (hby:w.cell? ⟨by',0,none⟩=some (.int .i64 (y:Int))):
 Calls Tryz.prog 274 #[.iface 334 (.slice Al l.length cl),.pointer (some ⟨bh,0,none⟩),.pointer (some ⟨bx,0,none⟩),.pointer (some ⟨by',0,none⟩)] w fun e w'=>e= .returned (.bool (oI H l x y))∧Below w.heap.size w w':=by
 have hc:=hide (Et A c H Al cl l x y w h hn hl hln hx hy);clear h hl;go_enter Tryz.func274,Tryz.ntmps274;go_wp2_with fail;refine hc.out.mono ?_;rintro e w1 ⟨rfl,hb1⟩;go_wp2;go_ret;exact⟨rfl,hb1⟩
set_option maxRecDepth 100000 in
theorem xG (A:Option Addr) (c:Nat) (H:List Txn) (x y:Int) (Ak:Option Addr) (ck:Nat) (vs:List (Value×Bool)) (w:World) (h:aF w (Old w) (.slice A H.length c) H) (hn:aB H) (hk:vI w (Old w) (.slice Ak vs.length ck) vs) (hkn:vs.length≤1000)
 (hp:nP H x y=true→∀W (bh bx by':Nat),Below w.heap.size w W→W.cell? ⟨bh,0,none⟩=some (.slice A H.length c)→W.cell? ⟨bx,0,none⟩=some (.int .i64 x)→W.cell? ⟨by',0,none⟩=some (.int .i64 y)→∀v∈vs,Calls Tryz.prog 274 #[v.1,.pointer (some ⟨bh,0,none⟩),.pointer (some ⟨bx,0,none⟩),.pointer (some ⟨by',0,none⟩)] W fun e W'=>e= .returned (.bool v.2)∧Below W.heap.size W W'):
 Calls Tryz.prog 260 #[.agg #[.slice A H.length c],.int .i64 x,.int .i64 y,.slice Ak vs.length ck] w fun e w'=>e= .returned (.bool (nP H x y&&vs.any (·.2)))∧Below w.heap.size w w':=by
 obtain⟨W0,hW0⟩:∃W0,((w.alloc (.cells #[.slice A H.length c] 24)).alloc (.cells #[.int .i64 x] 3)).alloc (.cells #[.int .i64 y] 3)=W0:=⟨_,rfl⟩;have hB:=dY hW0;have k0:=Blk.oz hW0;have k1:=Blk.mK hW0;have k2:=Blk.mM hW0;have hrc:=hide (fF A c H W0 (h.below hB) hn);have c0:=Blk.n0 k0;have hko:=hide (fun W (hb:Below w.heap.size w W)=>hk.below hb);have htw:Hid (nP H x y=(aC H&&decide (0≤x)&&decide (x<(H.length:Int))&&decide (0≤y)&&decide (y<(H.length:Int)))):=hide rfl;obtain⟨r,hr⟩:∃r,nP H x y=r:=⟨_,rfl⟩;rw[hr]at htw hp;rw[hr];obtain⟨q,hq⟩:∃q,aC H=q:=⟨_,rfl⟩;rw[hq]at htw hrc;replace hp:=hide hp;replace hn:=hide hn;obtain⟨z,hz⟩:∃z,vs.any (·.2)=z:=⟨_,rfl⟩;rw[hz];replace hz:=hide hz;clear h hk hr hq;go_enter Tryz.func260,Tryz.ntmps260;go_wp2_with fail;refine hrc.out.mono ?_;rintro e w1 ⟨rfl,hb1⟩;replace k0:=k0.below hb1 k0.lt;replace k1:=k1.below hb1 k1.lt;replace k2:=k2.below hb1 k2.lt;have hb2:=hB.trans (hb1.mono hB.size);clear hW0 hrc c0;have c0:=Blk.n0 k0;have c1:=Blk.n0 k1;have c2:=Blk.n0 k2;cases q with
 |false=>
  have hre:r=false:=(by rw[htw.out];rfl);subst hre;clear htw hp;go_wp2;go_ret;exact⟨rfl,hb2⟩
 |true=>
  by_cases h1:x<0∨y<0
  ·have hre:r=false:=by
    rw[htw.out];rcases h1 with g|g
    ·rw[decide_eq_false (show¬0≤x by omega)];simp
    ·rw[decide_eq_false (show¬0≤y by omega)];simp
   subst hre;have g1:decide (min x y<0)=true:=(by simp;omega);clear htw hp h1;go_wp2;go_ret;exact⟨rfl,hb2⟩
  ·have g1:decide (min x y<0)=false:=(by simp;omega);by_cases h2:(H.length:Int)≤x∨(H.length:Int)≤y
   ·have hre:r=false:=by
     rw[htw.out];rcases h2 with g|g
     ·rw[decide_eq_false (show¬x<(H.length:Int) by omega)];simp
     ·rw[decide_eq_false (show¬y<(H.length:Int) by omega)];simp
    subst hre;have g2:decide (max x y≥(H.length:Int))=true:=(by simp;omega);have g3:decide ((H.length:Int)≤max x y)=true:=(by simp;omega);clear htw hp h1 h2;go_wp2;go_ret;exact⟨rfl,hb2⟩
   ·have hre:r=true:=by
     rw[htw.out,decide_eq_true (show 0≤x by omega),decide_eq_true (show 0≤y by omega),decide_eq_true (show x<(H.length:Int) by omega),decide_eq_true (show y<(H.length:Int) by omega)];rfl
    subst hre;have g2:decide (max x y≥(H.length:Int))=false:=(by simp;omega);have g3:decide ((H.length:Int)≤max x y)=false:=(by simp;omega);have hc:=hide (xq 274 (enters_of Tryz.func274 (by kernel_rfl) rfl) #[.pointer (some ⟨w.heap.size,0,none⟩),.pointer (some ⟨w.heap.size+1,0,none⟩),.pointer (some ⟨w.heap.size+1+1,0,none⟩)] (·.2) Ak ck vs w1 (hko.out w1 hb2) (by omega) (fun W hbW v hv=>hp.out (by simp) W _ _ _ (hb2.trans (hbW.mono hb2.size)) (by have:=(k0.below hbW k0.lt).cell 0;simpa using this) (by have:=(k1.below hbW k1.lt).cell 0;simpa using this) (by have:=(k2.below hbW k2.lt).cell 0;simpa using this) v hv));rw[hz.out]at hc;clear htw hp h1 h2 hko hz;go_wp2_with fail;refine hc.out.mono ?_;rintro e w2 ⟨rfl,hb3⟩;go_wp2;go_ret;exact⟨rfl,hb2.trans (hb3.mono hb2.size)⟩
theorem vI.bB{w:World}{g:Nat}{t:TypeId}{vs:List (Value×Bool)}(h:Blk w g t (vs.map (·.1)).toArray):vI w (Old w) (.slice (some ⟨g,0,none⟩) vs.length vs.length) vs:=by
 refine⟨some ⟨g,0,none⟩,vs.length,vs.map fun x=>[x.1],rfl,Nat.le_refl _,by simp,fun i cs x h1 h2=> ?_,fun _=>⟨g,0,rfl,h.lt,fun i j cs u h1 h2=> ?_⟩⟩
 ·rw[List.getElem?_map,h2]at h1;injection h1 with h1
  exact⟨by rw[←h1];rfl,h1.symm⟩
 ·rw[List.getElem?_map]at h1;cases hl:vs[i]? with
  |none=>rw[hl]at h1;cases h1
  |some x=>
   rw[hl]at h1;injection h1 with h1
   subst h1;cases j with
   |zero=>
    injection h2 with h2
    rw[Nat.zero_add,Nat.mul_one,Nat.add_zero,h.cell,gA,List.getElem?_map,hl,←h2];rfl
   |succ j=>simp at h2
set_option maxRecDepth 100000 in
theorem mV(A:Option Addr)(c:Nat)(H:List Txn)(Al:Option Addr)(cl:Nat)(l:List Cho)(x y:Int)(w:World)(h:aF w (Old w) (.slice A H.length c) H)(hn:aB H)(hl:bq w (Old w) (.slice Al l.length cl) l)(hln:l.length≤1000000000):
 Calls Tryz.prog 229 #[.agg #[.slice A H.length c],.slice Al l.length cl,.int .i64 x,.int .i64 y] w fun e w'=>e= .returned (.bool (aK H l x y))∧Below w.heap.size w w':=by
 obtain⟨W0,hW0⟩:∃W0,(w.alloc (.cells #[.slice A H.length c] 24)).alloc (.cells #[.iface 317 (.agg #[]),.iface 318 (.agg #[]),.iface 319 (.slice Al l.length cl)] 332)=W0:=⟨_,rfl⟩;have hB:=aG hW0;have k1:=Blk.dQ hW0;have hT:=h.below hB;have hL:=hl.below hB;have hc:=hide (xG A c H x y (some ⟨w.heap.size+1,0,none⟩) 3 [(.iface 317 (.agg #[]),soE H x.toNat y.toNat),(.iface 318 (.agg #[]),vJ H x.toNat y.toNat),(.iface 319 (.slice Al l.length cl),lM H l x.toNat y.toNat)] W0 hT hn (vI.bB (vs:=[(.iface 317 (.agg #[]),soE H x.toNat y.toNat),(.iface 318 (.agg #[]),vJ H x.toNat y.toNat),(.iface 319 (.slice Al l.length cl),lM H l x.toNat y.toNat)]) k1) (by simp) (fun htw W bh bx by' hbW g1 g2 g3 v hv=>by
  obtain⟨_,a,b,rfl,rfl,ha,hb⟩:=oJ.1 htw;simp only[Int.toNat_natCast]at hv;simp only[List.mem_cons,List.not_mem_nil,or_false]at hv;rcases hv with rfl|rfl|rfl
  ·exact H6 A c H Al cl l a b bh bx by' W (hT.below hbW) hn (hL.below hbW) hln ha hb g1 g2 g3
  ·exact H7 A c H Al cl l a b bh bx by' W (hT.below hbW) hn (hL.below hbW) hln ha hb g1 g2 g3
  ·exact H8 A c H Al cl l a b bh bx by' W (hT.below hbW) hn (hL.below hbW) hln ha hb g1 g2 g3))
 have hre:aK H l x y=(nP H x y&&[((.iface 317 (.agg #[]):Value),soE H x.toNat y.toNat),(.iface 318 (.agg #[]),vJ H x.toNat y.toNat),(.iface 319 (.slice Al l.length cl),lM H l x.toNat y.toNat)].any (·.2)):=by
  unfold aK Om;simp[Bool.or_assoc]
 rw[hre];generalize(nP H x y&&[((.iface 317 (.agg #[]):Value),soE H x.toNat y.toNat),(.iface 318 (.agg #[]),vJ H x.toNat y.toNat),(.iface 319 (.slice Al l.length cl),lM H l x.toNat y.toNat)].any (·.2))=q at*;clear h hl hre hT hL;go_enter Tryz.func229,Tryz.ntmps229;go_wp2_with fail;refine hc.out.mono ?_;rintro e w1 ⟨rfl,hb1⟩;go_wp2;go_ret;exact⟨rfl,hB.trans (hb1.mono hB.size)⟩
set_option maxRecDepth 100000 in
theorem Eu(A:Option Addr)(c:Nat)(H:List Txn)(Al:Option Addr)(cl:Nat)(l:List Cho)(x y:Int)(w:World)(h:aF w (Old w) (.slice A H.length c) H)(hn:aB H)(hl:bq w (Old w) (.slice Al l.length cl) l)(hln:l.length≤1000000000):
 Calls Tryz.prog 263 #[.agg #[.slice A H.length c],.slice Al l.length cl,.int .i64 x,.int .i64 y] w fun e w'=>e= .returned (.bool (eX H l x y))∧Below w.heap.size w w':=by
 obtain⟨W0,hW0⟩:∃W0,(w.alloc (.cells #[.slice A H.length c] 24)).alloc (.cells #[.iface 334 (.slice Al l.length cl)] 332)=W0:=⟨_,rfl⟩;have hB:=aG hW0;have k1:=Blk.dQ hW0;have hT:=h.below hB;have hL:=hl.below hB;have hc:=hide (xG A c H x y (some ⟨w.heap.size+1,0,none⟩) 1 [(.iface 334 (.slice Al l.length cl),oI H l x.toNat y.toNat)] W0 hT hn (vI.bB (vs:=[(.iface 334 (.slice Al l.length cl),oI H l x.toNat y.toNat)]) k1) (by simp) (fun htw W bh bx by' hbW g1 g2 g3 v hv=>by
  obtain⟨_,a,b,rfl,rfl,ha,hb⟩:=oJ.1 htw;simp only[Int.toNat_natCast]at hv;simp only[List.mem_cons,List.not_mem_nil,or_false]at hv;subst hv;exact H9 A c H Al cl l a b bh bx by' W (hT.below hbW) hn (hL.below hbW) hln ha hb g1 g2 g3))
 have hre:eX H l x y=(nP H x y&&[((.iface 334 (.slice Al l.length cl):Value),oI H l x.toNat y.toNat)].any (·.2)):=by
  unfold eX;simp
 rw[hre];generalize(nP H x y&&[((.iface 334 (.slice Al l.length cl):Value),oI H l x.toNat y.toNat)].any (·.2))=q at*;clear h hl hre hT hL;go_enter Tryz.func263,Tryz.ntmps263;go_wp2_with fail;refine hc.out.mono ?_;rintro e w1 ⟨rfl,hb1⟩;go_wp2;go_ret;exact⟨rfl,hB.trans (hb1.mono hB.size)⟩
set_option maxRecDepth 100000 in
theorem Ku(A:Option Addr)(c:Nat)(H:List Txn)(level:Int)(Al:Option Addr)(cl:Nat)(l:List Cho)(x y:Int)(w:World)(h:aF w (Old w) (.slice A H.length c) H)(hn:aB H)(hl:bq w (Old w) (.slice Al l.length cl) l)(hln:l.length≤1000000000):
 Calls Tryz.prog 235 #[.agg #[.slice A H.length c],.int .i64 level,.slice Al l.length cl,.int .i64 x,.int .i64 y] w fun e w'=>e= .returned (.bool (isB H level l x y))∧Below w.heap.size w w':=by
 obtain⟨W0,hW0⟩:∃W0,w.alloc (.cells #[.slice A H.length c] 24)=W0:=⟨_,rfl⟩;have hB:=ah (Below.refl w.heap.size w) hW0 (Nat.le_refl _);have k0:=Blk.newEq hW0;have hdi:=hide (fun(a b:Int) W (hb:Below w.heap.size w W)=>mV A c H Al cl l a b W (h.below hb) hn (hl.below hb) hln);have han:=hide (fun(a b:Int) W (hb:Below w.heap.size w W)=>Eu A c H Al cl l a b W (h.below hb) hn (hl.below hb) hln);have hH:=hn.1;have c0:=Blk.n0 k0;clear h hl;by_cases h0:level=0
 ·subst h0;have hre:Hid (isB H 0 l x y=(aK H l x y||eX H l x y)):=hide rfl;rw[hre.out];have hd1:=hide (hdi.out x y W0 hB);have ha1:=hide (fun W (hb:Below W0.heap.size W0 W)=>han.out x y W (hB.trans (hb.mono hB.size)));generalize aK H l x y=q1 at*;generalize eX H l x y=q2 at*;clear hre hdi han;go_enter Tryz.func235,Tryz.ntmps235;go_wp2_with fail;refine hd1.out.mono ?_;rintro e w1 ⟨rfl,hb1⟩;have hb2:=hB.trans (hb1.mono hB.size);have ha2:=hide (ha1.out w1 hb1);have k1:=k0.below hb1 k0.lt;have c1:=Blk.n0 k1;clear hW0 c0 hd1 ha1;cases q1 with
  |true=>
   clear ha2;go_wp2;go_ret;exact⟨rfl,hb2⟩
  |false=>
   go_wp2_with fail;refine ha2.out.mono ?_;rintro e w2 ⟨rfl,hb3⟩;go_wp2;go_ret;exact⟨rfl,hb2.trans (hb3.mono hb2.size)⟩
 ·have g0:(level==0)=false:=(by simpa using h0);by_cases h1:level=1
  ·subst h1;have hre:Hid (isB H 1 l x y=(List.range H.length).any fun m=>aK H l x (m:Int)&&(decide ((m:Int)=y)||eX H l (m:Int) y)):=hide rfl;have hyes:Hid (∀m,m<H.length→(aK H l x (m:Int)&&(decide ((m:Int)=y)||eX H l (m:Int) y))=true→isB H 1 l x y=true):=hide (fun m hm g=>by rw[hre.out,List.any_eq_true];exact⟨m,List.mem_range.2 hm,g⟩);have hno:Hid ((∀m,m<H.length→(aK H l x (m:Int)&&(decide ((m:Int)=y)||eX H l (m:Int) y))=false)→isB H 1 l x y=false):=hide (fun g=>by rw[hre.out,List.any_eq_false];intro m hm;rw[g m (List.mem_range.1 hm)];decide);generalize isB H 1 l x y=r at*;clear hre h0;go_enter Tryz.func235,Tryz.ntmps235;go_wp2_with fail;clear hW0 c0;go_loopw [32] (fun s32 wr=>∃m:Nat,m≤H.length∧s32= .int .i64 m∧Hid (∀m',m'<m→(aK H l x (m':Int)&&(decide ((m':Int)=y)||eX H l (m':Int) y))=false)∧Below w.heap.size w wr∧Blk wr w.heap.size 24 #[.slice A H.length c]) (fun s32 _=>H.length-(intOf s32).toNat);case atStart=>exact⟨0,Nat.zero_le _,by go_num,hide (fun m hm=>absurd hm (by omega)),hB,k0⟩
   case round=>
    clear k0 hB;obtain⟨m,hm,rfl,hall,hb,k0⟩:=hrel;have hm0:(0:Int)≤(m:Int):=Int.natCast_nonneg _;by_cases hlt:m<H.length
    ·have hm1:(m:Int)<(H.length:Int):=(by omega);have c0:=Blk.n0 k0;have hd1:=hide (hdi.out x (m:Int) wr hb);have ha1:=hide (fun W (hb2:Below wr.heap.size wr W)=>han.out (m:Int) y W (hb.trans (hb2.mono hb.size)));have hy:=hide (hyes.out m hlt);have hnx:=hide (fun(g:(aK H l x (m:Int)&&(decide ((m:Int)=y)||eX H l (m:Int) y))=false)=>(fun m' (hm':m'<m+1)=>(by
      by_cases e:m'=m
      ·subst e;exact g
      ·exact hall.out m' (by omega):(aK H l x (m':Int)&&(decide ((m':Int)=y)||eX H l (m':Int) y))=false)))
     generalize aK H l x (m:Int)=q1 at*;generalize eX H l (m:Int) y=q2 at*;go_wp2_with fail;refine hd1.out.mono ?_;rintro e w1 ⟨rfl,hb1⟩;have hb2:=hb.trans (hb1.mono hb.size);have ha2:=hide (ha1.out w1 hb1);have k1:=k0.below hb1 k0.lt;have c1:=Blk.n0 k1;clear c0 hd1 ha1 k0;cases q1 with
     |false=>
      have hn2:=hide (hnx.out rfl);clear ha2 hnx hy;go_wp2;go_roundw;case rel=>exact⟨m+1,by omega,by go_num,hn2,hb2,k1⟩
      case measure=>simp[intOf];omega
     |true=>
      by_cases hmy:(m:Int)=y
      ·have hr:=hy.out (by simp[hmy]);have g1:((m:Int)==y)=true:=(by simpa using hmy);subst hr;clear ha2 hnx hy hmy hno hyes;go_wp2;go_ret;exact⟨rfl,hb2⟩
      ·have g1:((m:Int)==y)=false:=(by simpa using hmy);have hmd:decide ((m:Int)=y)=false:=(by simpa using hmy);rw[hmd]at hy hnx;clear hmd hmy;go_wp2_with fail;refine ha2.out.mono ?_;rintro e w2 ⟨rfl,hb3⟩;have hb4:=hb2.trans (hb3.mono hb2.size);have k2:=k1.below hb3 k1.lt;clear ha2 c1;cases q2 with
       |true=>
        have hr:=hy.out rfl;subst hr;clear hnx hy hno hyes;go_wp2;go_ret;exact⟨rfl,hb4⟩
       |false=>
        have hn2:=hide (hnx.out rfl);clear hnx hy;go_wp2;go_roundw;case rel=>exact⟨m+1,by omega,by go_num,hn2,hb4,k2⟩
        case measure=>simp[intOf];omega
    ·have hr:=hno.out (fun m' hm'=>hall.out m' (by omega));subst hr;clear hyes hall;go_wp2;go_ret;exact⟨rfl,hb⟩
  ·have g1:(level==1)=false:=(by simpa using h1);have hre:isB H level l x y=false:=(by unfold isB;rw[if_neg h0,if_neg h1]);rw[hre];clear hre h0 h1;go_enter Tryz.func235,Tryz.ntmps235;go_wp2;go_ret;exact⟨rfl,hB⟩
end Go.Proofs.YtfhnamomiaekdaaGreatDoor
namespace Go.Inq
open Go
section
variable{P:Program}{ops:Array Oper}{Q:Exit→Act→World→Prop}
def iH(ops:Array Oper)(o:Oper):List Nat:=
 (o.op.operands.toList.filterMap fun| .tmp t=>some t|_=>none)++(match o.guard with|some (j,_)=>((ops[j]?).bind (·.dst)).toList|none=>[])
def fG(ops:Array Oper):Bool:=
 Region.noSelect ops&&(List.range ops.size).all fun i=>match ops[i]? with
  |none=>true
  |some o=>(o.after.all fun e=> !Region.binds .any e||decide (e.on<i))&&
   (List.range ops.size).all fun j=>match ops[j]? with
    |none=>true
    |some oj=>match oj.dst with
     |none=>true
     |some t=>(i==j||o.dst !=some t)&&(!(iH ops o).contains t||(decide (j<i)&&bC .any ops ops.size i j)||(decide (i<j)&&bC .any ops ops.size j i)||i==j)
theorem mW(h:fG ops=true){i:Nat}{o:Oper}(ho:ops[i]?=some o):∀e∈o.after,Region.binds .any e=true→e.on<i:=by
 intro e he hb;unfold fG at h;rw[Bool.and_eq_true,List.all_eq_true]at h;have h1:=h.2 i (List.mem_range.2 (Array.getElem?_eq_some_iff.1 ho).1);rw[ho]at h1;dsimp only at h1;rw[Bool.and_eq_true]at h1;have h2:=Array.all_eq_true_iff_forall_mem.1 h1.1 e he;rw[hb]at h2;simpa using h2
theorem kJ(h:fG ops=true){i j:Nat}{o oj:Oper}(ho:ops[i]?=some o)(hj:ops[j]?=some oj){t:Nat}(ht:oj.dst=some t):
 (i=j∨o.dst≠some t)∧(t∈iH ops o→(j<i∧bC .any ops ops.size i j=true)∨(i<j∧bC .any ops ops.size j i=true)∨i=j):=by
 unfold fG at h;rw[Bool.and_eq_true,List.all_eq_true]at h;have h1:=h.2 i (List.mem_range.2 (Array.getElem?_eq_some_iff.1 ho).1);rw[ho]at h1;dsimp only at h1;rw[Bool.and_eq_true,List.all_eq_true]at h1;have h2:=h1.2 j (List.mem_range.2 (Array.getElem?_eq_some_iff.1 hj).1);rw[hj]at h2;dsimp only at h2;rw[ht]at h2;dsimp only at h2;rw[Bool.and_eq_true]at h2;refine⟨?_,fun hm=> ?_⟩
 ·have:=h2.1;rw[Bool.or_eq_true,beq_iff_eq,bne_iff_ne]at this;exact this
 ·have h3:=h2.2;have hc:(iH ops o).contains t=true:=(by simpa using hm);rw[hc]at h3;simp only[Bool.not_true,Bool.false_or,Bool.or_eq_true,Bool.and_eq_true,decide_eq_true_eq,beq_iff_eq]at h3;rcases h3 with(h3|h3)|h3
  ·exact .inl h3
  ·exact .inr (.inl h3)
  ·exact .inr (.inr h3)
structure Flo(ops:Array Oper)(a0:Act)(vs:Nat→Value)(L:Nat→Bool)(a:Act):Prop where
 defers:a.defers=a0.defers
 size:a.tmps.size=a0.tmps.size
 hit:∀j o t,ops[j]?=some o→o.dst=some t→L j=true→t<a0.tmps.size→a.tmps[t]?=some (vs j)
 miss:∀t,(∀j o,ops[j]?=some o→o.dst=some t→L j=false)→a.tmps[t]?=a0.tmps[t]?
variable{a0 a b:Act}{vs:Nat→Value}{L L':Nat→Bool}
theorem Flo.start(h:∀j,L j=false):Flo ops a0 vs L a0:=⟨rfl,rfl,(fun j _ _ _ _ hl=>absurd hl (by rw[h j];simp)),fun _ _=>rfl⟩
theorem Kv(a:Act)(d:Option Tmp)(v:Value):(a.put d v).tmps.size=a.tmps.size:=by
 cases d<;>simp[Act.put]
theorem put_defers(a:Act)(d:Option Tmp)(v:Value):(a.put d v).defers=a.defers:=by
 cases d<;>simp[Act.put]
theorem Kw{d:Option Tmp}{t:Nat}(h:d≠some t)(a:Act)(v:Value):(a.put d v).tmps[t]?=a.tmps[t]?:=by
 cases d with
 |none=>rfl
 |some d=>
  have:d≠t:=fun e=>h (by rw[e]);simp[Act.put,Array.getElem?_setIfInBounds_ne this]
theorem put_eq{t:Nat}(a:Act)(v:Value)(h:t<a.tmps.size):(a.put (some t) v).tmps[t]?=some v:=by
 simp[Act.put,h]
theorem Flo.put(hB:fG ops=true){i:Nat}{o:Oper}(ho:ops[i]?=some o)(h:Flo ops a0 vs L a)(hL:∀j,L' j=(L j||decide (j=i))):Flo ops a0 vs L' (a.put o.dst (vs i)):=by
 refine⟨by rw[put_defers,h.defers],by rw[Kv,h.size],fun j oj t hj ht hl hs=> ?_,fun t ht=> ?_⟩
 ·by_cases hji:j=i
  ·subst hji;have:oj=o:=Option.some.inj (hj.symm.trans ho);subst this;rw[ht,put_eq _ _ (by rw[h.size];exact hs)]
  ·have h1:L j=true:=(by rw[hL]at hl;simpa[hji]using hl);have hne:o.dst≠some t:=by
    rcases(kJ hB ho hj ht).1 with e|e
    ·exact absurd e.symm hji
    ·exact e
   rw[Kw hne];exact h.hit j oj t hj ht h1 hs
 ·have hne:o.dst≠some t:=fun e=>by
   have:=ht i o ho e;rw[hL]at this;simp at this
  rw[Kw hne];refine h.miss t fun j oj hj hd=> ?_;have:=ht j oj hj hd;rw[hL]at this;rw[Bool.or_eq_false_iff]at this;exact this.1
theorem Flo.agree(h:Flo ops a0 vs L a)(h':Flo ops a0 vs L' b){t:Nat}(ht:∀j o,ops[j]?=some o→o.dst=some t→L j=L' j):a.tmps[t]?=b.tmps[t]?:=by
 by_cases hs:t<a0.tmps.size
 ·by_cases hx:∃j o,ops[j]?=some o∧o.dst=some t∧L j=true
  ·obtain⟨j,o,hj,hd,hl⟩:=hx;rw[h.hit j o t hj hd hl hs,h'.hit j o t hj hd (by rw[←ht j o hj hd];exact hl) hs]
  ·have hf:∀j o,ops[j]?=some o→o.dst=some t→L j=false:=fun j o hj hd=>by
    cases hl:L j with
    |false=>rfl
    |true=>exact absurd ⟨j,o,hj,hd,hl⟩ hx
   rw[h.miss t hf,h'.miss t fun j o hj hd=>by rw[←ht j o hj hd];exact hf j o hj hd]
 ·rw[Array.getElem?_eq_none (by rw[h.size];omega),Array.getElem?_eq_none (by rw[h'.size];omega)]
theorem wu{d:Option Tmp}{u v:Value}(hs:a.tmps.size=b.tmps.size)(h:b.put d u=b.put d v):a.put d u=a.put d v:=by
 cases d with
 |none=>rfl
 |some t=>
  rcases Nat.lt_or_ge t b.tmps.size with ht|ht
  ·have h1:=put_eq b u ht;rw[h,put_eq b v ht]at h1;injection h1 with h1
   rw[h1]
  ·have:∀x:Value,a.put (some t) x=a:=fun x=>by
    unfold Act.put;dsimp only;rw[Array.setIfInBounds_eq_of_size_le (show a.tmps.size≤t by rw[hs];exact ht)]
   rw[this,this]
theorem Ew {S:World→Prop} {i:Nat} {o:Oper} {w:World} {v:Value} {K:Act→World→Prop} (ho:ops[i]?=some o) (hsel:∀cs b,o.op≠ .select cs b)
 (hr:∀t∈iH ops o,a.tmps[t]?=b.tmps[t]?) (hs:a.tmps.size=b.tmps.size) (hK:∀w',S w'→K (a.put o.dst v) w')
 (h:wpList P ops (fun e a' w'=>e= .normal∧a'=b.put o.dst v∧S w') [o] b w):wpOp P ops Q i K a w:=by
 have hw:Region.wanted o (yielded ops a.tmps)=Region.wanted o (yielded ops b.tmps):=by
  unfold Region.wanted;cases hg:o.guard with
  |none=>rfl
  |some g=>
   obtain⟨j,x⟩:=g;dsimp only;have:yielded ops a.tmps j=yielded ops b.tmps j:=by
    unfold yielded;cases hd:(ops[j]?).bind (·.dst)with
    |none=>rfl
    |some t=>
     have hm:t∈iH ops o:=by
      unfold iH;rw[hg];refine List.mem_append.2 (.inr ?_);show t∈((ops[j]?).bind (·.dst)).toList;rw[hd];simp
     simp only[Option.bind_some];rw[hr t hm]
   rw[this]
 have he:execOp a.eval o=execOp b.eval o:=by
  refine execOp_congr o hsel fun x hx=> ?_;cases x with
  |tmp t=>
   have hm:t∈iH ops o:=by
    unfold iH;refine List.mem_append.2 (.inl ?_);rw[List.mem_filterMap];exact⟨.tmp t,by simpa using hx,rfl⟩
   have:=hr t hm;simp only[Act.eval,Array.getD_eq_getD_getElem?,this]
  |_=>rfl
 unfold wpOp;rw[ho];dsimp only;unfold wpList at h;rw[hw];by_cases hwd:Region.wanted o (yielded ops b.tmps)=true
 ·rw[if_pos hwd]at h⊢;left;rcases h with h|⟨_,_,_,h,_⟩
  ·unfold Oper.wp at*;rw[he];generalize(execOp b.eval o).run P w=r at h;have key:∀u w',wpList P ops (fun e a' w'=>e= .normal∧a'=b.put o.dst v∧S w') [] (b.put o.dst u) w'→K (a.put o.dst u) w':=fun u w' h=>by
    unfold wpList at h;rw[wu hs h.2.1];exact hK w' h.2.2
   cases r with
   |halt x w'=>
    cases x<;>simp only[Oper.upon]at h⊢;exact absurd h.1 (by simp)
   |ok n w'=>
    cases n with
    |value u=>exact key u w' h
    |skip=>exact key undef w' h
    |defer d=>
     simp only[Oper.upon]at h;unfold wpList at h;have h1:=congrArg Act.defers h.2.1;rw[put_defers,put_defers]at h1;exact absurd (congrArg List.length h1) (by simp)
    |enter f args=>
     simp only[Oper.upon]at h⊢;refine Calls.mono h fun e w'' he=> ?_;cases e with
     |returned u=>exact key u w'' he
     |panicked c=>exact absurd he.1 (by simp)
     |outgrown=>
      obtain⟨_,_,h1,_⟩:=he;cases h1
    |row r args=>
     simp only[Oper.upon]at h⊢;exact Rows.mono h fun u w'' he=>key u w'' he
    |_=>simp only[Oper.upon]at h
  ·cases h
 ·rw[if_neg hwd]at h⊢;unfold wpList at h;rw[wu hs h.2.1];exact hK w h.2.2
def lacks:Nat→(Nat→Bool)→Nat
 |0,_=>0
 |n+1,f=>lacks n f+if f n then 0 else 1
theorem pO(f:Nat→Bool):∀n,lacks n f=0→∀i,i<n→f i=true
 |0,_,i,hi=>absurd hi (by omega)
 |n+1,h,i,hi=>by
  unfold lacks at h;by_cases hn:f n=true
  ·by_cases hin:i=n
   ·rw[hin];exact hn
   ·exact pO f n (by omega) i (by omega)
  ·rw[if_neg hn]at h;omega
theorem xH{f g:Nat→Bool}:∀n,(∀j,j<n→f j=g j)→lacks n f=lacks n g
 |0,_=>rfl
 |n+1,h=>by unfold lacks;rw[xH n (fun j hj=>h j (by omega)),h n (by omega)]
theorem pQ{f g:Nat→Bool}{i:Nat}(hf:f i=false)(hg:∀j,g j=(f j||decide (j=i))):∀n,i<n→lacks n f=lacks n g+1
 |0,h=>absurd h (by omega)
 |n+1,h=>by
  unfold lacks;by_cases hin:i=n
  ·subst hin;have h1:lacks i f=lacks i g:=xH i fun j hj=>(by rw[hg j];simp;intro;omega);rw[h1,hf,hg i];simp
  ·have h1:=pQ hf hg n (by omega);have h2:g n=f n:=(by rw[hg n];simp;intro;omega);rw[h1,h2];omega
theorem mX:∀n,lacks n (fun _=>false)=n
 |0=>rfl
 |n+1=>by unfold lacks;rw[mX n];rfl
theorem Ci {S:World→Prop} (hB:fG ops=true) {ac:Nat→Act} (hac:∀i,Flo ops a0 vs (fun j=>decide (j<i)) (ac i))
 (hstep:∀i o,ops[i]?=some o→∀w,S w→wpList P ops (fun e a' w'=>e= .normal∧a'=(ac i).put o.dst (vs i)∧S w') [o] (ac i) w)
 (hend:∀w,S w→Q .normal (ac ops.size) w):
 ∀(fuel:Nat) (listed:Array Bool) (a:Act) (w:World),Closed .any ops listed→listed.size=ops.size→lacks ops.size (fun j=>listed.getD j false)=fuel→Flo ops a0 vs (fun j=>listed.getD j false) a→S w→wpAny P .any ops Q fuel listed a w:=by
 have hnone:∀(listed:Array Bool),listed.size=ops.size→Region.ready .any ops listed=[]→∀i,i<ops.size→listed.getD i false=true:=by
  intro listed hsz hr i
  induction i using Nat.strongRecOn with
  |_ i ih=>
   intro hi;cases hl:listed.getD i false with
   |true=>rfl
   |false=>
    exfalso;have ho:ops[i]?=some ops[i]:=Array.getElem?_eq_getElem hi;have hm:i∈Region.ready .any ops listed:=by
     rw[mem_ready];refine⟨?_,ops[i],ho,fun e he hb=> ?_⟩
     ·have hi2:i<listed.size:=(by omega);simp only[Array.getD_eq_getD_getElem?,Array.getElem?_eq_getElem hi2,Option.getD_some]at hl⊢;exact hl
     ·have h1:=mW hB ho e he hb;exact ih e.on h1 (by omega)
    rw[hr]at hm;cases hm
 have hfin:∀(listed:Array Bool) (a:Act) (w:World),(∀i,i<ops.size→listed.getD i false=true)→Flo ops a0 vs (fun j=>listed.getD j false) a→S w→Q .normal a w:=by
  intro listed a w hall hf hS;have:a=ac ops.size:=by
   have h1:a.tmps=(ac ops.size).tmps:=by
    refine Array.ext_getElem? fun t=> ?_;refine hf.agree (hac ops.size) fun j o hj _=> ?_;have hjs:=(Array.getElem?_eq_some_iff.1 hj).1;rw[hall j hjs];simp[hjs]
   have h2:a.defers=(ac ops.size).defers:=(by rw[hf.defers,(hac ops.size).defers]);cases a;cases hx:ac ops.size;rw[hx]at h1 h2;simp only at h1 h2;rw[h1,h2]
  rw[this];exact hend w hS
 intro fuel
 induction fuel with
 |zero=>
  intro listed a w hcl hsz hlk hf hS;have hall:=pO _ _ hlk;refine⟨?_,hfin listed a w hall hf hS⟩;rw[List.eq_nil_iff_forall_not_mem];intro i hi;obtain⟨h1,o,ho,_⟩:=mem_ready.1 hi;have his:=(Array.getElem?_eq_some_iff.1 ho).1;have h2:=hall i his;have hi2:i<listed.size:=(by omega);simp only[Array.getD_eq_getD_getElem?,Array.getElem?_eq_getElem hi2,Option.getD_some]at h1 h2;rw[h1]at h2;cases h2
 |succ fuel ih=>
  intro listed a w hcl hsz hlk hf hS;refine⟨fun hr=>hfin listed a w (hnone listed hsz hr) hf hS,fun i hi=> ?_⟩;obtain⟨h1,o,ho,hall⟩:=mem_ready.1 hi;have his:=(Array.getElem?_eq_some_iff.1 ho).1;have hi2:i<listed.size:=(by omega);have hun:listed.getD i false=false:=by
   simp only[Array.getD_eq_getD_getElem?,Array.getElem?_eq_getElem hi2,Option.getD_some]at h1⊢;exact h1
  have hset:∀j,(listed.setIfInBounds i true).getD j false=(listed.getD j false||decide (j=i)):=fun j=>by
   by_cases hji:j=i
   ·subst hji;simp[Array.getD_eq_getD_getElem?,hi2]
   ·rw[getD_set_ne false (Ne.symm hji)];simp[hji]
  have hsel:=fun cs b=>Region.noSelect_spec (ops:=ops) (by unfold fG at hB;rw[Bool.and_eq_true]at hB;exact hB.1) i o cs b ho;refine Ew (S:=S) (b:=ac i) (v:=vs i) ho hsel (fun t ht=> ?_) (by rw[hf.size,(hac i).size]) (fun w' hS'=> ?_) (hstep i o ho w hS)
  ·refine hf.agree (hac i) fun j oj hj hd=> ?_;rcases(kJ hB ho hj hd).2 ht with⟨h2,h3⟩|⟨h2,h3⟩|h2
   ·rw[hcl.ready h3 hi];simp[h2]
   ·have h4:decide (j<i)=false:=(by simp;omega);rw[h4];cases hlj:listed.getD j false with
    |false=>rfl
    |true=>
     have:=hcl.waits _ _ _ h3 hlj;rw[hun]at this;cases this
   ·subst h2;rw[hun];simp
  ·refine ih (listed.setIfInBounds i true) _ w' (hcl.aD hi) (by rw[Array.size_setIfInBounds];exact hsz) ?_ (hf.put hB ho hset) hS';have:=pQ (f:=fun j=>listed.getD j false) (g:=fun j=>(listed.setIfInBounds i true).getD j false) hun hset ops.size his;omega
def AY(P:Program)(ops:Array Oper)(S:World→Prop)(K:Act→Prop):List Oper→Act→Prop
 |[],a=>K a
 |o::os,a=>∃v,(∀w,S w→wpList P ops (fun e a' w'=>e= .normal∧a'=a.put o.dst v∧S w') [o] a w)∧AY P ops S K os (a.put o.dst v)
theorem xI{S:World→Prop}{K:Act→Prop}:∀(os:List Oper) (a:Act),AY P ops S K os a→∃(vs:Nat→Value) (ac:Nat→Act),ac 0=a∧
 (∀i o,os[i]?=some o→(∀w,S w→wpList P ops (fun e a' w'=>e= .normal∧a'=(ac i).put o.dst (vs i)∧S w') [o] (ac i) w)∧ac (i+1)=(ac i).put o.dst (vs i))∧(∀i,os.length≤i→ac i=ac os.length)∧K (ac os.length)
 |[],a,h=>⟨fun _=>undef,fun _=>a,rfl,fun i o h=>by simp at h,fun _ _=>rfl,h⟩
 |o::os,a,h=>by
  obtain⟨v,h1,h2⟩:=h;obtain⟨vs,ac,e0,hs,hl,hk⟩:=xI os _ h2;refine⟨fun i=>match i with|0=>v|i+1=>vs i,fun i=>match i with|0=>a|i+1=>ac i,rfl,fun i o' ho=> ?_,fun i hi=> ?_,hk⟩
  ·cases i with
   |zero=>
    simp only[gZ,Option.some.injEq]at ho;subst ho;exact⟨h1,e0⟩
   |succ i=>exact hs i o' (by simpa using ho)
  ·cases i with
   |zero=>simp at hi
   |succ i=>exact hl i (by simpa using hi)
theorem dU {id:Nat} {w:World} {l:List Oper} (S:World→Prop) (hm:P.follows .mixedOrders=true) (hB:fG l.toArray=true) (hS:S w.drew)
 (h:AY P l.toArray S (fun a'=>∀w',S w'→Q .normal a' w') l a):(Code.region id l.toArray true).wp P Q a w:=by
 obtain⟨vs,ac,e0,hs,hl,hk⟩:=xI _ _ h;have hsz:l.toArray.size=l.length:=(by simp);have hget:∀i:Nat,l.toArray[i]?=l[i]?:=fun i=>List.getElem?_toArray ..;have hac:∀i,Flo l.toArray a vs (fun j=>decide (j<i)) (ac i):=by
  intro i
  induction i with
  |zero=>rw[e0];exact Flo.start fun j=>by simp
  |succ i ih=>
   cases hx:l[i]? with
   |none=>
    have hle:l.length≤i:=by
     rcases Nat.lt_or_ge i l.length with h1|h1
     ·rw[List.getElem?_eq_getElem h1]at hx;cases hx
     ·exact h1
    rw[hl (i+1) (by omega),←hl i hle];refine⟨ih.defers,ih.size,fun j o t hj hd hlt hs=>ih.hit j o t hj hd ?_ hs,fun t ht=>ih.miss t fun j o hj hd=> ?_⟩
    ·have:=(Array.getElem?_eq_some_iff.1 hj).1;simp at this⊢;omega
    ·have:=ht j o hj hd;simp at this⊢;omega
   |some o=>
    rw[(hs i o hx).2];refine ih.put hB (by rw[hget];exact hx) fun j=> ?_;rw[Bool.eq_iff_iff];simp;omega
 refine wp_region_any hm ?_;refine Ci (S:=S) hB hac (fun i o ho=>(hs i o (by rw[←hget];exact ho)).1) (fun w hw=>by rw[hsz];exact hk w hw) _ _ a _ (Closed.start _ _ _) (by simp) ?_ (Flo.start fun j=>getD_replicate_false _ _) hS;have:(fun j=>(Array.replicate l.toArray.size false).getD j false)=fun _=>false:=funext fun j=>getD_replicate_false _ _;rw[this,mX]
end
end Go.Inq
