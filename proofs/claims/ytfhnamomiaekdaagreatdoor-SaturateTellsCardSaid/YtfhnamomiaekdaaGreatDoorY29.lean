/-
  Walks: layer 18's reference: who reads ahead of whose write.
-/
import Derived.Test.YtfhnamomiaekdaaGreatDoorY28
import Derived.Test.YtfhnamomiaekdaaGreatDoorY14
import Derived.Test.YtfhnamomiaekdaaGreatDoorY05
import Derived.Test.YtfhnamomiaekdaaGreatDoorY02
import Derived.Test.YtfhnamomiaekdaaGreatDoorY08
import Derived.Test.YtfhnamomiaekdaaGreatDoorY06
import Derived.Test.YtfhnamomiaekdaaGreatDoorY07
import Derived.Test.YtfhnamomiaekdaaGreatDoorY11
set_option linter.unusedVariables false
set_option linter.unusedSimpArgs false
namespace Go.Proofs.YtfhnamomiaekdaaGreatDoor
open Go.RowKit Go.Inq
set_option maxHeartbeats 8000000
attribute [local go_sem↓] Go.wp_at_zero Go.wp_at_succ
def rdE(D:List Nat)(b:Nat):aj:=fun x y=>decide (y=b)&&decide (x≠y)&&D.contains x
theorem Nl(E:aj)(b:Nat):orE E (rdE [] b)=E:=by funext x y;simp[orE,rdE]
theorem Nn{E:aj}{D:List Nat}{b t:Nat}(h:t≠b):orE E (rdE (D++[t]) b)=orE (orE E (rdE D b)) (gK t b):=by
 funext x y;unfold orE rdE gK;rw[Bool.or_assoc];congr 1;by_cases e1:y=b
 ·subst e1;by_cases e2:x=t
  ·subst e2;simp[h]
  ·simp[e2]
 ·simp[e1]
theorem Pf{E:aj}{D:List Nat}{b t:Nat}(h:t=b):orE E (rdE (D++[t]) b)=orE E (rdE D b):=by
 funext x y;unfold orE rdE;congr 1;by_cases e1:y=b
 ·subst e1;by_cases e2:x=t
  ·subst e2;simp[h]
  ·simp[e2]
 ·simp[e1]
theorem Np{H:List Txn}(hr:aC H=true){l:List Cho}{k:Nat}(hk:k<l.length){b:Nat}(hb:l[k].b=(b:Int)){x y:Nat}(hx:x<H.length):
 orE (rwE H (l.take k)) (rdE (FY H l[k].key l[k].a) b) x y=rwE H (l.take (k+1)) x y:=by
 rw[←zL H hk hx];unfold orE kV xU rdE;rw[decide_eq_true hx,Bool.true_and,hb];congr 1;rw[Bool.eq_iff_iff];simp only[Bool.and_eq_true,decide_eq_true_eq,List.contains_iff_mem,DN hr,List.any_eq_true];constructor
 ·rintro⟨⟨h1,h2⟩,_,r,h3,h4,h5⟩;exact⟨⟨by omega,h2⟩,r,h3,h4,h5⟩
 ·rintro⟨⟨h1,h2⟩,r,h3,h4,h5⟩;exact⟨⟨by omega,h2⟩,hx,r,h3,h4,h5⟩
set_option maxRecDepth 100000 in
theorem JK(A:Option Addr)(c:Nat)(H:List Txn)(Al:Option Addr)(cl:Nat)(l:List Cho)(w:World)(h:aF w (Old w) (.slice A H.length c) H)(hl:bq w (Old w) (.slice Al l.length cl) l)(hr:cB H l=true)(hn:aB H):
 Calls Tryz.prog 138 #[.agg #[.slice A H.length c],.slice Al l.length cl] w (xB w H.length (rwE H l)):=by
 have hrh:=gD hr;have dG:H.length≤64:=(by have:=((aA H).1 hrh).1;omega);have hll:=jT hr;have hcn:=hide (fun x hx=>mZ hr (x:=x) hx);replace hrh:=hide hrh;clear hr;go_enter Tryz.func138,Tryz.ntmps138;go_upto_region 1 with fail;obtain⟨W0,hW0⟩:∃W0,(w.alloc (.cells #[.slice A H.length c] 24)).alloc (.cells #[.int .i64 0,.slice none 0 0] 140)=W0:=⟨_,rfl⟩;rw[hW0];have hb:=aG hW0;have k1:=Blk.fC hW0;have k3:=Blk.dQ hW0;have s0:=size_two hW0;have hT:=hide (h.below hb);have hl0:=hide (hl.below hb);clear hW0 h hl;have c0:=Blk.n0 k1;replace s0:=hide s0;go_wp2_with fail;refine(Dy A c H W0 hT.out hrh.out hn).mono ?_;rintro e w1 ⟨v,rfl,hR,hb1⟩;clear c0;obtain⟨Av,cv,rfl,-⟩:=hR.gr dG (K:=fun _=>True) (fun _ _ _=>trivial);go_upto_region 2 with fail;obtain⟨W5,hW5⟩:∃W5,w1.alloc (.cells #[.int .i64 (H.length:Int),.slice Av H.length cv] 140)=W5:=⟨_,rfl⟩;rw[hW5];have hP:=RGP.start hR dG hW5;have hs1:=hb1.size;have hb5:=ah hb1 hW5 hs1;clear hW5 hR hb1;go_wp2_with fail;go_loopw [6] (fun s6 wr=>∃k:Nat,k≤l.length∧s6= .int .i64 k∧RGP wr W0.heap.size w1.heap.size H.length (rwE H (l.take k)) Av cv∧Below W0.heap.size W0 wr) (fun s6 _=>l.length-(intOf s6).toNat);case atStart=>exact⟨0,Nat.zero_le _,by go_num,hP.congr fun a b _ _=>Gx H a b,hb5⟩
 case round=>
  obtain⟨k,hk,rfl,hPk,hbk⟩:=hrel;have hk1:(0:Int)≤(k:Int):=Int.natCast_nonneg _;by_cases hlt:k<l.length
  ·have hk2:(k:Int)<(l.length:Int):=(by omega);obtain⟨b,off,rfl,_,y0,y1,y2⟩:=(hl0.out.below hbk).at_ hlt;obtain⟨xa,xb,ha,hb',ha2,hb2⟩:=hcn.out _ (List.getElem_mem hlt);have hend:=hide (fun x y (hx:x<H.length)=>Np hrh.out hlt hb' (y:=y) hx);have QA:Hid (∀x∈FY H l[k].key l[k].a,x<H.length):=hide (fun x hx=>((DN hrh.out).1 hx).1);rw[ha]at hend QA y1;rw[hb']at y2;have k1k:=k1.below hbk k1.lt;have c0:=Blk.n0 k1k;have hcall:=hide (yC A c H l[k].key (xa:Int) wr.drew ((hT.out.below hbk).keep (Agree.drew _ _) (fun _ h=>h)) hrh.out hn);have hDl:=z8 H l[k].key (xa:Int) H.length;have hly:Hid (∀wq,Below W0.heap.size W0 wq→wq.cell? ⟨b,off+k*3+2,none⟩=some (.int .i64 (xb:Int))):=hide fun wq hq=>by
    obtain⟨b',off',e,-,-,-,e2⟩:=(hl0.out.below hq).at_ hlt;injection e with e
    injection e with e3 e4
    subst e3 e4;rw[hb']at e2;exact e2
   clear ha hb';generalize l[k].key=key at*;change(FY H key xa).length≤_ at hDl;generalize FY H key xa=D at*;go_wp2_with fail;refine wp_region_still_tail 11 (by kernel_rfl) (by kernel_rfl) ?_;simp only[List.take_succ_cons,List.take_zero,List.drop_succ_cons,List.drop_zero];repeat still_step
   refine wpStill_nil ?_;go_wp2_with fail;refine hcall.out.mono ?_;rintro e w3 ⟨v,rfl,hown,hb3⟩;have hb4:=(aX hbk).trans (hb3.mono hbk.size);have hP4:=hPk.drew.below hb3 (Nat.le_refl _);have QB:W0.heap.size≤wr.heap.size:=hbk.size;have hsl:=hown.sl (K:=fun g=>wr.heap.size≤g∧g<w3.heap.size) (fun g h1 h2=>⟨h1,h2⟩);obtain⟨Ad,cd,rfl⟩:=hown.form;have hpw:w1.heap.size<wr.heap.size:=hPk.plt;have hq1:=hide (aN D);have hat:=hide (fun j (hj:j<D.length)=>iF (l:=D) hj);clear hcall hown hb3 hPk hbk c0 k1k y0 y1 y2;rw[hq1.out]at hsl⊢;have hst:=hide (fun j (hj:j<D.length) (h:D[j]≠xb)=>by have:=Nn (E:=rwE H (l.take k)) (D:=D.take j) h;rwa[←take_snoc' hj]at this);have hsk:=hide (fun j (hj:j<D.length) (h:D[j]=xb)=>by have:=Pf (E:=rwE H (l.take k)) (D:=D.take j) h;rwa[←take_snoc' hj]at this);go_wp2_with fail;go_loopw [8] (fun s8 wq=>∃j:Nat,j≤D.length∧s8= .int .i64 j∧RGP wq W0.heap.size w1.heap.size H.length (orE (rwE H (l.take k)) (rdE (D.take j) xb)) Av cv∧Below W0.heap.size W0 wq∧aI wq (fun g=>wr.heap.size≤g∧g<w3.heap.size) (.slice Ad D.length cd) (au D)) (fun s8 _=>D.length-(intOf s8).toNat);case atStart=>exact⟨0,Nat.zero_le _,by go_num,by rw[List.take_zero,Nl];exact hP4,hb4,hsl⟩
   case round=>
    clear hP4 hb4 hsl;obtain⟨Wo,rfl⟩:∃Wo,Wo=wr:=⟨_,rfl⟩;obtain⟨j,hj,rfl,hP4,hb4,hsl⟩:=hrel;have hj1:(0:Int)≤(j:Int):=Int.natCast_nonneg _;by_cases hlj:j<D.length
    ·have hj2:(j:Int)<(D.length:Int):=(by omega);obtain⟨bd,od,rfl,hbd,z0⟩:=hsl.at_ (i:=j) (by rw[hq1.out];exact hlj);rw[hat.out j hlj]at z0;have y2:=hly.out _ hb4;have Pg:=hide (hst.out j hlj);have Ph:=hide (hsk.out j hlj);have htn:=QA.out _ (List.getElem_mem hlj);have ht1:(0:Int)≤(D[j]:Int):=Int.natCast_nonneg _;have ht2:((D[j]:Nat):Int)<(H.length:Int):=(by omega);generalize D[j]=t at*;by_cases htx:t=xb
     ·have hnb:((t:Int) !=(xb:Int))=false:=(by rw[htx];simp);have hE2:=hide (Ph.out htx);clear Pg Ph htx;go_wp2_with fail;go_region;go_wp2;go_roundw;case rel=>exact⟨j+1,by omega,by go_num,by rw[hE2.out];exact hP4.drew,aX hb4,hsl.keep (Agree.drew _ _) (fun _ h=>h)⟩
      case measure=>simp[intOf];omega
     ·have hnb:((t:Int) !=(xb:Int))=true:=(by simp;omega);have hE2:=hide (Pg.out htx);clear Pg Ph htx;go_wp2_with fail;go_region;replace hP4:=hP4.drew;replace hb4:=aX hb4;replace hsl:=hide (hsl.keep (Agree.drew _ _) (fun _ h=>h));have z0':Wo.drew.cell? ⟨bd,od+j,none⟩=some (.int .i64 (t:Int)):=z0;have y2':Wo.drew.cell? ⟨b,off+k*3+2,none⟩=some (.int .i64 (xb:Int)):=y2;clear z0 y2;generalize Wo.drew=w9 at*;obtain⟨g,rfl,hX⟩:=hP4.at_ htn;have hP5:=hide (hX.add (y:=xb) htn hb2).drew;have hb5:=hide (aX (hb4.setCell (p:=⟨g,t,none⟩) hX.B (.int .u64 (eU (aV ((orE (rwE H (l.take k)) (rdE (D.take j) xb)) t) H.length) (xb:Int):Nat))));obtain⟨-,c0,c1,d0,df,gp,gl,-,h64⟩:=hX;clear hnb hP4 hb4;generalize aV ((orE (rwE H (l.take k)) (rdE (D.take j) xb)) t) H.length=s at*;go_upto_region 10 with fail;refine wp_region_still_tail 21 (by kernel_rfl) (by kernel_rfl) ?_;simp only[List.take_succ_cons,List.take_zero,List.drop_succ_cons,List.drop_zero];repeat still_step
      still_call ((d9 _ h64 _ _).mono fun _ _ h=>⟨h.1,h.2.symm⟩)
      repeat still_step
      refine wpStill_nil ?_;change wpList _ _ _ _ _ (w9).drew;go_wp2;go_roundw;case rel=>exact⟨j+1,by omega,by go_num,by rw[hE2.out];exact hP5.out,hb5.out,hsl.out.keep ((Agree.setCell ⟨g,t,none⟩ (fun h=>by have h1:=h.1;dsimp only at h1;omega) _).trans (Agree.drew _ _)) (fun _ h=>h)⟩
      case measure=>simp[intOf];omega
    ·obtain rfl:j=D.length:=(by omega);rw[List.take_length]at hP4;have hP5:=hide (hP4.congr (F:=rwE H (l.take (k+1))) fun x y hx _=>hend.out x y hx);go_wp2;go_roundw;case rel=>exact⟨k+1,by omega,by go_num,hP5.out,hb4⟩
     case measure=>simp[intOf];omega
  ·obtain rfl:k=l.length:=(by omega);rw[List.take_length]at hPk;have hP4:=hPk;have hbr:=hbk;have c0:=hP4.c0;have c1:=hP4.c1;have k3r:=k3.below hbr k3.lt;have f0:=k3r.frozen 0;have f1:=k3r.frozen 1;have e0:=k3r.cell 0;have e1:=k3r.cell 1;have hs0:=s0.out;have hs3:w.heap.size+1<W0.heap.size:=k3.lt;have hR:=hide (((hP4.rg.far (p:=⟨w.heap.size+1,0,none⟩) hs3 (.int .i64 H.length)).far (p:=⟨w.heap.size+1,1,none⟩) hs3 (.slice Av H.length cv)).base (B':=w.heap.size) (by omega));have hz:=hide (((hb.trans (hbr.mono hb.size)).setCell (p:=⟨w.heap.size+1,0,none⟩) (by simp;try omega) (.int .i64 H.length)).setCell (p:=⟨w.heap.size+1,1,none⟩) (by simp;try omega) (.slice Av H.length cv));have hq:=(k3r.aD 0 (.int .i64 H.length)).aD 1 (.slice Av H.length cv);simp only[sA,sZ,sS]at hq;have y0:=hq.cell 0;have y1:=hq.cell 1;simp only[gA,gZ,gS]at y0 y1 e0 e1;clear hq hs0 hs3;go_wp2_with fail;exact bodyPost_ret (v:= .agg #[.int .i64 H.length,.slice Av H.length cv]) (by simp[results,Tryz.results138,go_sem,y0,y1]) rfl ⟨_,rfl,hR.out,hz.out⟩
def iN(H:List Txn)(A:Option Addr)(c:Nat)(Al:Option Addr)(cl:Nat)(l:List Cho)(base:Nat):Nat→(Nat→Value)→World→Prop
 |0,vs,_=>vs 0= .agg #[.slice A H.length c]
 |1,vs,W=>GVR base H.length (dX H) (vs 1) W
 |2,vs,_=>vs 2= .agg #[.slice A H.length c]
 |3,vs,_=>vs 3= .slice Al l.length cl
 |4,vs,W=>GVR base H.length (wwE l) (vs 4) W
 |5,vs,W=>GVR base H.length (orE (dX H) (wwE l)) (vs 5) W
 |6,vs,W=>yB base (vs 6) W
 |7,vs,W=>∃g x y,vs 6= .pointer (some ⟨g,0,none⟩)∧base≤g∧vs 5= .agg #[x,y]∧Blk W g 140 #[x,y]
 |_,_,_=>True
def jl:Nat→List Nat
 |1=>[0]
 |4=>[2,3]
 |5=>[1,4]
 |7=>[6,5]
 |_=>[]
theorem Mv{H:List Txn}{A:Option Addr}{c:Nat}{Al:Option Addr}{cl:Nat}{l:List Cho}{base:Nat}:∀j (vs vs':Nat→Value) w,(∀k,k=j∨k∈jl j→vs k=vs' k)→iN H A c Al cl l base j vs w→iN H A c Al cl l base j vs' w:=by
 intro j vs vs' w hk h
 match j,h with
 |0,h|1,h|2,h|3,h|4,h|5,h|6,h=>
  simp only[iN]at h⊢;rw[←hk _ (.inl rfl)];exact h
 |7,h=>
  simp only[iN]at h⊢;rw[←hk 6 (.inr (by simp[jl])),←hk 5 (.inr (by simp[jl]))];exact h
 |n+8,_=>trivial
theorem F3{H:List Txn}{A:Option Addr}{c:Nat}{Al:Option Addr}{cl:Nat}{l:List Cho}{base:Nat}:∀i j (vs:Nat→Value) w w',j≠i→j∉(fun _=>[]:Nat→List Nat) i→iN H A c Al cl l base j vs w→iM 7 base i w w'→iN H A c Al cl l base j vs w':=by
 intro i j vs w w' hne _ h hs;have hv:=hs.var
 match j,h with
 |0,h|2,h|3,h=>exact h
 |1,h|4,h|5,h=>
  simp only[iN]at h⊢;exact h.var hv
 |6,h=>
  simp only[iN]at h⊢;exact yB.var h hv
 |7,h=>
  unfold iM at hs;rw[if_neg (fun e=>hne e.symm)]at hs;simp only[iN]at h⊢;obtain⟨g,x,y,h1,h2,h3,h4⟩:=h;exact⟨g,x,y,h1,h2,h3,h4.below hs h4.lt⟩
 |n+8,_=>trivial
theorem F4:∀i,8≤i→jl i=[]:=by
 intro i hi
 match i,hi with
 |n+8,_=>rfl
set_option maxRecDepth 100000 in
theorem pq(A:Option Addr)(c:Nat)(H:List Txn)(level:Int)(Al:Option Addr)(cl:Nat)(l:List Cho)(w:World)(h:aF w (Old w) (.slice A H.length c) H)(hl:bq w (Old w) (.slice Al l.length cl) l)(hr:cB H l=true)(hn:aB H):
 Calls Tryz.prog 75 #[.agg #[.slice A H.length c],.int .i64 level,.slice Al l.length cl] w (xB w H.length (bK H level l)):=by
 obtain⟨W0,hW0⟩:∃W0,(w.alloc (.cells #[.slice A H.length c] 24)).alloc (.cells #[.int .i64 0,.slice none 0 0] 140)=W0:=⟨_,rfl⟩;have hB:=aG hW0;have k0:=Blk.fC hW0;have k1:=Blk.dQ hW0;have hrh:=gD hr;have h64:H.length≤64:=(by have:=((aA H).1 hrh).1;omega);replace hr:=hide hr;replace hn:=hide hn;replace hl:=hide hl;replace h:=hide h;replace hrh:=hide hrh;go_enter Tryz.func75,Tryz.ntmps75;go_wp2_with fail;clear hW0;refine gT (iN H A c Al cl l (w.heap.size+2)) (fun W=>Below w.heap.size w W∧Blk W w.heap.size 24 #[.slice A H.length c]∧Blk W (w.heap.size+1) 140 #[.int .i64 0,.slice none 0 0]) (iM 7 (w.heap.size+2)) jl (by kernel_rfl) (by kernel_rfl) (by kernel_rfl) F4 (fun _=>[]) (by kernel_rfl) Mv F3 ⟨hB.drew,k0,k1⟩ ?hstep ?hend;case hstep=>
  intro i o ho vs W hS hd;obtain⟨hb,m0,m1⟩:=hS;have hT:=h.out.below hb;have hC:=hl.out.below hb;have hsz:w.heap.size+2≤W.heap.size:=m1.lt
  match i,ho with
  |0,ho|2,ho=>
   simp only[gZ,gS,Option.some.injEq]at ho;subst ho;simp only[acV,gA,gZ,gS,Act.put,sA,sZ,sS];have c0:=Blk.n0 m0;go_wp2;exact⟨rfl,.agg #[.slice A H.length c],rfl,rfl,⟨hb,m0,m1⟩,Below.refl _ _⟩
  |3,ho=>
   simp only[gZ,gS,Option.some.injEq]at ho;subst ho;simp only[acV,gA,gZ,gS,Act.put,sA,sZ,sS];go_wp2;exact⟨rfl,.slice Al l.length cl,rfl,rfl,⟨hb,m0,m1⟩,Below.refl _ _⟩
  |1,ho=>
   have d0:=hd 0 (by simp[jl]);simp only[iN]at d0;simp only[gZ,gS,Option.some.injEq]at ho;subst ho;simp only[acV,gA,gZ,gS,Act.put,sA,sZ,sS];rw[d0];go_wp2_with fail;refine(DL A c H _ hT hrh.out hn.out).mono ?_;intro e W2 hO;obtain⟨v,rfl,hG,hb2⟩:=GVR.of h64 hsz hO;go_wp2;exact⟨rfl,_,rfl,hG,⟨hb.trans (hb2.mono hb.size),m0.below hb2 m0.lt,m1.below hb2 m1.lt⟩,hb2⟩
  |4,ho=>
   have d2:=hd 2 (by simp[jl]);have d3:=hd 3 (by simp[jl]);simp only[iN]at d2 d3;simp only[gZ,gS,Option.some.injEq]at ho;subst ho;simp only[acV,gA,gZ,gS,Act.put,sA,sZ,sS];rw[d2,d3];go_wp2_with fail;refine(JH A c H Al cl l _ hT hC hr.out).mono ?_;intro e W2 hO;obtain⟨v,rfl,hG,hb2⟩:=GVR.of h64 hsz hO;go_wp2;exact⟨rfl,_,rfl,hG,⟨hb.trans (hb2.mono hb.size),m0.below hb2 m0.lt,m1.below hb2 m1.lt⟩,hb2⟩
  |5,ho=>
   have g1:=hd 1 (by simp[jl]);have g3:=hd 4 (by simp[jl]);simp only[iN]at g1 g3;obtain⟨A1,c1,d1,q1,-⟩:=g1.gr h64;obtain⟨A3,c3,d3,q3,-⟩:=g3.gr h64;simp only[gZ,gS,Option.some.injEq]at ho;subst ho;simp only[acV,gA,gZ,gS,Act.put,sA,sZ,sS];rw[d1,d3];go_wp2_with fail;refine(jA H.length _ _ (dX H) _ _ (wwE l) (Old W) _ q1 q3 (fun b hb=>hb)).mono ?_;intro e W2 hO;obtain⟨v,rfl,hG,hb2⟩:=GVR.of h64 hsz hO;go_wp2;exact⟨rfl,_,rfl,hG,⟨hb.trans (hb2.mono hb.size),m0.below hb2 m0.lt,m1.below hb2 m1.lt⟩,hb2⟩
  |6,ho=>
   simp only[gZ,gS,Option.some.injEq]at ho;subst ho;simp only[acV,gA,gZ,gS,Act.put,sA,sZ,sS];go_wp2;exact⟨rfl,_,rfl,⟨W.heap.size,by omega,rfl,_,_,Blk.new _ _ _⟩,⟨hb.alloc hb.size _,m0.alloc _,m1.alloc _⟩,(Below.refl _ _).alloc (Nat.le_refl _) _⟩
  |7,ho=>
   obtain⟨g,hg,d8,x,y,q8⟩:=hd 6 (by simp[jl]);obtain⟨A6,c6,d6,q6⟩:=hd 5 (by simp[jl]);simp only[gZ,gS,Option.some.injEq]at ho;subst ho;simp only[acV,gA,gZ,gS,Act.put,sA,sZ,sS];rw[d8,d6];have c0:=Blk.n0 q8;have c1:=Blk.n1 q8;have f0:=q8.frozen 0;have f1:=q8.frozen 1;go_wp2;have hq:=(q8.aD 0 (.int .i64 H.length)).aD 1 (.slice A6 H.length c6);have n1:w.heap.size≠g:=(by omega);have n2:w.heap.size+1≠g:=(by omega);refine⟨rfl,undef,rfl,⟨g,_,_,(show dh vs 7 undef 6=_ from d8),hg,(show dh vs 7 undef 5=_ from d6),by simpa using hq⟩,⟨(hb.setCell (p:=⟨g,0,none⟩) (by simp;omega) _).setCell (p:=⟨g,1,none⟩) (by simp;omega) _,(m0.far n1 _).far n1 _,(m1.far n2 _).far n2 _⟩,?_⟩;unfold iM;rw[if_pos rfl];refine⟨⟨rfl,rfl,rfl,by simp⟩,fun k hk=> ?_⟩;by_cases e:k=g
   ·subst e;exact .inr ⟨hg,_,_,q8,hq,by simp⟩
   ·exact .inl ((Below.heap_setCell _ ⟨g,1,none⟩ _ k e).trans (Below.heap_setCell _ ⟨g,0,none⟩ _ k e))
  |n+8,ho=>simp at ho
 case hend=>
  rintro vs W ⟨hb,m0,m1⟩ hd;obtain⟨g,x,y,d8,hg,d6,q9⟩:=hd 7 (by simp) (by simp);have hG5:=hd 5 (by simp) (by simp);simp only[iN]at hG5;obtain⟨A6,c6,d6',hgr,q6⟩:=hG5.gr h64;rw[d6]at d6';injection d6' with d6'
  simp only[Array.mk.injEq,List.cons.injEq,and_true]at d6';obtain⟨rfl,rfl⟩:=d6';clear hd hG5;simp only[acV,gA,gZ,gS,Act.put,sA,sZ,sS,List.length_cons,List.length_nil,Nat.reduceAdd];rw[d8,d6];have hT:=hide (h.out.below hb);have hC:=hide (hl.out.below hb);have c0:=Blk.n0 m0;clear k0 k1 d6 d8;go_wp2_with fail;refine(JK A c H Al cl l _ hT.out hC.out hr.out hn.out).mono ?_;intro e W2 hO;obtain⟨v,rfl,hGr,hb2⟩:=GVR.of h64 (Nat.le_refl _) hO;obtain⟨Ar,cr,rfl,QC,-⟩:=hGr.gr h64;clear c0 hT hC hO hGr;obtain⟨W3,hW3⟩:∃W3,W2.alloc (.cells #[.int .i64 H.length,.slice Ar H.length cr] 140)=W3:=⟨_,rfl⟩;have hB3:=ah (Below.refl W2.heap.size W2) hW3 (Nat.le_refl _);have k9:=Blk.newEq hW3;have hBW:=hb2.trans (hB3.mono hb2.size);have m1c:=m1.below hBW m1.lt;have q9c:=q9.below hBW q9.lt;have hGd:=hide (hgr.keep (Agree.below hBW (fun b h=>h)) (fun b (h:b<W.heap.size)=>(Nat.lt_of_lt_of_le h hBW.size:b<W3.heap.size)));have QD:=hide (hgr.keep (Agree.below hBW (fun b h=>h)) (fun b (h:b<W.heap.size)=>h));have hGo:=hide (QC.keep (Agree.below hB3 (fun b h=>h)) (fun b (h:b<W2.heap.size)=>(Nat.lt_of_lt_of_le h hB3.size:b<W3.heap.size)));have hbc:=hb.trans (hBW.mono hb.size);have hsz:=m1.lt;have hgl:=q9.lt;have hw2:=hb2.size;have hw3:=hB3.size;clear hBW hB3 hb2 hb m0 m1 q9 q6 hgr QC;by_cases h1:level=1
  ·have q3:(level==1)=true:=(by simpa using h1);have hfe:Hid (bK H level l=orE (orE (dX H) (wwE l)) (j6 H.length (orE (dX H) (wwE l)) (rwE H l))):=hide (by rw[sP,if_pos h1]);clear h1;have a0:=Blk.n0 q9c;have a1:=Blk.n1 q9c;have b0:=Blk.n0 k9;have b1:=Blk.n1 k9;have hcp:=hide (DK H.length A6 c6 (orE (dX H) (wwE l)) Ar cr (rwE H l) (Old W3) W3 hGd.out hGo.out (fun b h=>h));go_wp2_with fail;clear a0 a1 b0 b1 hW3;refine hcp.out.mono ?_;rintro e W4 ⟨u,rfl,hR4,hb4⟩;obtain⟨Ac,cc,rfl,hG4⟩:=hR4.gr h64 (K:=fun b=>W3.heap.size≤b∧b<W4.heap.size) (fun g h1 h2=>⟨h1,h2⟩);have k94:=k9.below hb4 k9.lt;have c0:=Blk.n0 k94;have c1:=Blk.n1 k94;have f0:=k94.frozen 0;have f1:=k94.frozen 1;have Ro:=k9.lt;have ng:g≠W2.heap.size:=(by omega);have nr:w.heap.size+1≠W2.heap.size:=(by omega);have m1d:=((m1c.below hb4 m1c.lt).far (p:=⟨W2.heap.size,0,none⟩) nr (.int .i64 H.length)).far (p:=⟨W2.heap.size,1,none⟩) nr (.slice Ac H.length cc);have q9d:=((q9c.below hb4 q9c.lt).far (p:=⟨W2.heap.size,0,none⟩) ng (.int .i64 H.length)).far (p:=⟨W2.heap.size,1,none⟩) ng (.slice Ac H.length cc);have k9d:=(k94.aD 0 (.int .i64 H.length)).aD 1 (.slice Ac H.length cc);simp only[sA,sZ,sS]at k9d;have hbd:=((hbc.trans (hb4.mono hbc.size)).setCell (p:=⟨W2.heap.size,0,none⟩) (by simp;omega) (.int .i64 H.length)).setCell (p:=⟨W2.heap.size,1,none⟩) (by simp;omega) (.slice Ac H.length cc);have Pj:=hide (QD.out.keep (K':=Old W4) (((Agree.below hb4 (fun b h=>Nat.lt_of_lt_of_le h (Nat.le_trans hw2 hw3))).trans (Agree.setCell ⟨W2.heap.size,0,none⟩ (fun h=>by have h2:W2.heap.size<W.heap.size:=h;omega) (.int .i64 H.length))).trans (Agree.setCell ⟨W2.heap.size,1,none⟩ (fun h=>by have h2:W2.heap.size<W.heap.size:=h;omega) (.slice Ac H.length cc))) (fun b h=>Nat.lt_of_lt_of_le h (Nat.le_trans (Nat.le_trans hw2 hw3) hb4.size)));have Pk:=hide (hG4.keep (K':=Old W4) ((Agree.setCell ⟨W2.heap.size,0,none⟩ (fun h=>by have h2:=h.1;dsimp only at h2;omega) (.int .i64 H.length)).trans (Agree.setCell ⟨W2.heap.size,1,none⟩ (fun h=>by have h2:=h.1;dsimp only at h2;omega) (.slice Ac H.length cc))) (fun b h=>h.2));clear m1c q9c k9 k94 hcp hb4 hGd hGo QD hG4 hR4 hbc;obtain⟨Wd,hWd⟩:∃Wd,(W4.setCell ⟨W2.heap.size,0,none⟩ (.int .i64 H.length)).setCell ⟨W2.heap.size,1,none⟩ (.slice Ac H.length cc)=Wd:=⟨_,rfl⟩;have hsd:Wd.heap.size=W4.heap.size:=(by rw[←hWd];simp);rw[hWd]at m1d q9d k9d hbd Pj Pk;have m1c:=m1d;have q9c:=q9d;have k9c:=k9d;have hbc:=hbd;have hGd:=Pj;have hGo:=Pk;have hKK:=hide (fun b (h:Old W4 b)=>(by have h2:b<W4.heap.size:=h;omega:b<Wd.heap.size));clear m1d q9d k9d hbd Pj Pk;have a0:=Blk.n0 q9c;have a1:=Blk.n1 q9c;have b0:=Blk.n0 k9c;have b1:=Blk.n1 k9c;have hcall:=hide (jA H.length A6 c6 (orE (dX H) (wwE l)) Ac cc (j6 H.length (orE (dX H) (wwE l)) (rwE H l)) (Old W4) Wd hGd.out hGo.out hKK.out);go_wp2_with fail;clear a0 a1 b0 b1;refine hcall.out.mono ?_;rintro e W6 ⟨uz,rfl,hRz,hb6⟩;obtain⟨Az,cz,rfl,-⟩:=hRz.gr h64 (K:=fun _=>True) (fun _ _ _=>trivial);have m16:=m1c.below hb6 m1c.lt;have hb7:=hbc.trans (hb6.mono hbc.size);have j0:=Blk.n0 m16;have j1:=Blk.n1 m16;have jf:=m16.frozen 0;have jf1:=m16.frozen 1;have hml:=m1c.lt;clear hcall;go_wp2;exact bodyPost_ret (v:= .agg #[.int .i64 H.length,.slice Az H.length cz]) (by simp[results,Tryz.results75,go_sem,j0,j1]) rfl ⟨_,rfl,by rw[hfe.out];exact((hRz.far (p:=⟨w.heap.size+1,0,none⟩) hml _).far (p:=⟨w.heap.size+1,1,none⟩) hml _).base (by omega),(hb7.setCell (p:=⟨w.heap.size+1,0,none⟩) (by simp) _).setCell (p:=⟨w.heap.size+1,1,none⟩) (by simp) _⟩
  ·have q3:(level==1)=false:=(by simpa using h1);have hfe:Hid (bK H level l=orE (orE (dX H) (wwE l)) (rwE H l)):=hide (by rw[sP,if_neg h1]);have k9c:=k9;have hKK:=hide (fun b (h:Old W3 b)=>h);clear h1 k9;have a0:=Blk.n0 q9c;have a1:=Blk.n1 q9c;have b0:=Blk.n0 k9c;have b1:=Blk.n1 k9c;have hcall:=hide (jA H.length A6 c6 (orE (dX H) (wwE l)) Ar cr (rwE H l) (Old W3) W3 hGd.out hGo.out hKK.out);go_wp2_with fail;clear a0 a1 b0 b1;refine hcall.out.mono ?_;rintro e W6 ⟨uz,rfl,hRz,hb6⟩;obtain⟨Az,cz,rfl,-⟩:=hRz.gr h64 (K:=fun _=>True) (fun _ _ _=>trivial);have m16:=m1c.below hb6 m1c.lt;have hb7:=hbc.trans (hb6.mono hbc.size);have j0:=Blk.n0 m16;have j1:=Blk.n1 m16;have jf:=m16.frozen 0;have jf1:=m16.frozen 1;have hml:=m1c.lt;clear hcall;go_wp2;exact bodyPost_ret (v:= .agg #[.int .i64 H.length,.slice Az H.length cz]) (by simp[results,Tryz.results75,go_sem,j0,j1]) rfl ⟨_,rfl,by rw[hfe.out];exact((hRz.far (p:=⟨w.heap.size+1,0,none⟩) hml _).far (p:=⟨w.heap.size+1,1,none⟩) hml _).base (by omega),(hb7.setCell (p:=⟨w.heap.size+1,0,none⟩) (by simp) _).setCell (p:=⟨w.heap.size+1,1,none⟩) (by simp) _⟩
set_option maxHeartbeats 4000000
set_option maxRecDepth 100000 in
theorem nJ(A:Option Addr)(c:Nat)(H:List Txn)(d:Cho)(w:World)(h:aF w (Old w) (.slice A H.length c) H)(hn:aB H):
 Calls Tryz.prog 150 #[.agg #[.slice A H.length c],.agg #[.int .i64 d.key,.int .i64 d.a,.int .i64 d.b]] w fun e w'=>e= .returned (.bool (dB H d))∧Below w.heap.size w w':=by
 obtain⟨W0,hW0⟩:∃W0,(w.alloc (.cells #[.slice A H.length c] 24)).alloc (.cells #[.int .i64 d.key,.int .i64 d.a,.int .i64 d.b] 102)=W0:=⟨_,rfl⟩;have hB:=aG hW0;have k0:=Blk.fC hW0;have k1:=Blk.dQ hW0;have hh:=hide (fun W hb=>h.below (w':=W) hb);have c0:=Blk.n0 k0;have d0:=Blk.n0 k1;have d1:=Blk.n1 k1;have d2:=Blk.n2 k1;have hdf:dB H d=(decide (d.a≠d.b)&&wrB H d.a d.key&&wrB H d.b d.key):=rfl;obtain⟨dk,da,db⟩:=d;dsimp only at d0 d1 d2 hdf⊢;obtain⟨q,hq⟩:∃q,dB H ⟨dk,da,db⟩=q:=⟨_,rfl⟩;rw[hq];rw[hdf]at hq;clear hdf h;replace hq:=hide hq;go_enter Tryz.func150,Tryz.ntmps150;go_upto_region 2 with fail;clear hW0;replace hq:=hq.out;by_cases q0:da=db
 ·have q0b:(da==db)=true:=(by simpa using q0);have hr:(decide (da≠db)&&wrB H da dk&&wrB H db dk)=false:=(by simp[q0]);clear q0;obtain rfl:q=false:=hq.symm.trans hr;clear hr hq;go_wp2;go_ret;exact⟨rfl,hB⟩
 ·have q0b:(da==db)=false:=(by simpa using q0);by_cases q1:da<0
  ·have hr:(decide (da≠db)&&wrB H da dk&&wrB H db dk)=false:=(by unfold wrB;simp;omega);clear q0;obtain rfl:q=false:=hq.symm.trans hr;clear hr hq;go_wp2;go_ret;exact⟨rfl,hB⟩
  ·by_cases q2:da≥(H.length:Int)
   ·have hr:(decide (da≠db)&&wrB H da dk&&wrB H db dk)=false:=(by unfold wrB;simp;omega);clear q0;obtain rfl:q=false:=hq.symm.trans hr;clear hr hq;go_wp2;go_ret;exact⟨rfl,hB⟩
   ·by_cases q3:db<0
    ·have hr:(decide (da≠db)&&wrB H da dk&&wrB H db dk)=false:=(by unfold wrB;simp;omega);clear q0;obtain rfl:q=false:=hq.symm.trans hr;clear hr hq;go_wp2;go_ret;exact⟨rfl,hB⟩
    ·by_cases q4:db≥(H.length:Int)
     ·have hr:(decide (da≠db)&&wrB H da dk&&wrB H db dk)=false:=(by unfold wrB;simp;omega);clear q0;obtain rfl:q=false:=hq.symm.trans hr;clear hr hq;go_wp2;go_ret;exact⟨rfl,hB⟩
     ·obtain⟨a,rfl⟩:∃a:Nat,da=a:=⟨da.toNat,by omega⟩;obtain⟨b,rfl⟩:∃b:Nat,db=b:=⟨db.toNat,by omega⟩;have ha:a<H.length:=(by omega);have hb:b<H.length:=(by omega);have hr:(decide ((a:Int)≠(b:Int))&&wrB H (a:Int) dk&&wrB H (b:Int) dk)=(H[a].writes.contains dk&&H[b].writes.contains dk):=by
       rw[pJ ha,pJ hb,aO ha,aO hb,decide_eq_true q0,Bool.true_and]
      rw[hr]at hq;clear hr q0;replace hq:=hide hq;have ha0:(0:Int)≤(a:Int):=Int.natCast_nonneg _;have hb0:(0:Int)≤(b:Int):=Int.natCast_nonneg _;have ha1:(a:Int)<(H.length:Int):=(by omega);have hb1:(b:Int)<(H.length:Int):=(by omega);obtain⟨bt,off,Aw,cw,Ar,cr,rfl,hbK,e0,e1,e2,hws,-⟩:=aF.at_ (hh.out W0 hB) ha;have hwl:H[a].writes.length≤maxLen:=(by have:=(hn.2 _ (List.getElem_mem ha)).1;unfold maxLen;omega);have hcw:=hide (eF H[a].bL Aw cw H[a].writes (.slice Ar H[a].reads.length cr) dk (Old W0) W0 hws (fun b h=>h) hwl);have KH:H[b].writes.length≤maxLen:=(by have:=(hn.2 _ (List.getElem_mem hb)).1;unfold maxLen;omega);clear hcw;obtain⟨x,hx⟩:∃x,H[a].writes.contains dk=x:=⟨_,rfl⟩;rw[hx]at hq;go_upto_region 4 with fail;refine aY [0,1,2,3,4,5,6,7] [8,9] (by kernel_rfl) (by kernel_rfl) (fun _ _ d _ _ h=>by cases d<;>exact h) ?_;simp only[List.filterMap_cons,List.filterMap_nil,gZ,gS];repeat still_step
      refine wpStill_nil ?_;go_wp2_with fail;refine(eF H[a].bL Aw cw H[a].writes (.slice Ar H[a].reads.length cr) dk (Old W0) _ (aI.keep hws (Agree.drewN _ _ _) (fun b h=>h)) (fun b h=>h) hwl).mono ?_;rintro e W2 ⟨rfl,hb2'⟩;have hb2:Below W0.heap.size W0 W2:=⟨hb2'.os,hb2'.tape,hb2'.output,hb2'.size,hb2'.block⟩;have hB2:=hB.trans (hb2.mono hB.size);replace k0:=k0.below hb2 k0.lt;replace k1:=k1.below hb2 k1.lt;have c0:=Blk.n0 k0;have d0:=Blk.n0 k1;have d1:=Blk.n1 k1;have d2:=Blk.n2 k1;rw[hx];clear hx hb2' hb2 e0 e1 e2 hws hwl;obtain⟨bt',off',Bw,cw',Br,cr',he,hbK,e0,e1,e2,hws,-⟩:=aF.at_ (hh.out W2 hB2) hb;simp only[Option.some.injEq,Addr.mk.injEq,and_true]at he;obtain⟨rfl,rfl⟩:=he;go_upto_region 5 with fail;refine aY [0,1,2,3,4,5,6,7] [8,9] (by kernel_rfl) (by kernel_rfl) (fun _ _ d _ _ h=>by cases d<;>exact h) ?_;simp only[List.filterMap_cons,List.filterMap_nil,gZ,gS];repeat still_step
      refine wpStill_nil ?_;go_wp2_with fail;refine(eF H[b].bL Bw cw' H[b].writes (.slice Br H[b].reads.length cr') dk (Old W2) _ (aI.keep hws (Agree.drewN _ _ _) (fun b h=>h)) (fun b h=>h) KH).mono ?_;rintro e W3 ⟨rfl,y8⟩;have hb3:Below W2.heap.size W2 W3:=⟨y8.os,y8.tape,y8.output,y8.size,y8.block⟩;have hB3:=hB2.trans (hb3.mono hB2.size);obtain⟨y,hy⟩:∃y,H[b].writes.contains dk=y:=⟨_,rfl⟩;rw[hy]at hq⊢;clear hy y8 hb3 e0 e1 e2 hws KH c0 d0 d1 d2;cases x with
      |true=>
       rw[Bool.true_and]at hq;go_wp2;go_ret;exact⟨bP hq.out,hB3⟩
      |false=>
       rw[Bool.false_and]at hq;go_wp2;go_ret;exact⟨bP hq.out,hB3⟩
set_option maxRecDepth 100000 in
theorem yD(A:Option Addr)(c:Nat)(H:List Txn)(x y:Int)(w:World)(h:aF w (Old w) (.slice A H.length c) H)(hn:aB H):
 Calls Tryz.prog 261 #[.agg #[.slice A H.length c],.int .i64 x,.int .i64 y] w fun e w'=>e= .returned (.bool (nP H x y))∧Below w.heap.size w w':=by
 obtain⟨W0,hW0⟩:∃W0,w.alloc (.cells #[.slice A H.length c] 24)=W0:=⟨_,rfl⟩;have hB:=ah (Below.refl w.heap.size w) hW0 (Nat.le_refl _);have k0:=Blk.newEq hW0;have hrc:=hide (gG A c H W0 (h.below hB) hn);have c0:=Blk.n0 k0;obtain⟨q,hq⟩:∃q,nP H x y=q:=⟨_,rfl⟩;rw[hq];unfold nP at hq;obtain⟨r,hrr⟩:∃r,aC H=r:=⟨_,rfl⟩;rw[hrr]at hrc hq;replace hq:=hide hq;clear h hrr;go_enter Tryz.func261,Tryz.ntmps261;go_wp2_with fail;clear hW0;refine hrc.out.mono ?_;rintro e w1 ⟨rfl,hb1⟩;have hB1:=hB.trans (hb1.mono hB.size);replace k0:=k0.below hb1 k0.lt;have c0:=Blk.n0 k0;replace hq:=hq.out;clear hrc hb1 hB;cases r with
 |false=>
  have hr:(false&&decide (0≤x)&&decide (x<(H.length:Int))&&decide (0≤y)&&decide (y<(H.length:Int)))=false:=(by simp);obtain rfl:q=false:=hq.symm.trans hr;clear hr hq;go_wp2;go_ret;exact⟨by first|rfl|exact bP (by simp<;>omega),hB1⟩
 |true=>
  by_cases q1:x≥0
  ·by_cases q2:x<(H.length:Int)
   ·by_cases q3:y≥0
    ·by_cases q4:y<(H.length:Int)
     ·have hr:(true&&decide (0≤x)&&decide (x<(H.length:Int))&&decide (0≤y)&&decide (y<(H.length:Int)))=true:=(by simp;omega);obtain rfl:q=true:=hq.symm.trans hr;clear hr hq;go_wp2;go_ret;exact⟨bP (by simp<;>omega),hB1⟩
     ·have hr:(true&&decide (0≤x)&&decide (x<(H.length:Int))&&decide (0≤y)&&decide (y<(H.length:Int)))=false:=(by simp;omega);obtain rfl:q=false:=hq.symm.trans hr;clear hr hq;go_wp2;go_ret;exact⟨by first|rfl|exact bP (by simp<;>omega),hB1⟩
    ·have hr:(true&&decide (0≤x)&&decide (x<(H.length:Int))&&decide (0≤y)&&decide (y<(H.length:Int)))=false:=(by simp;omega);obtain rfl:q=false:=hq.symm.trans hr;clear hr hq;go_wp2;go_ret;exact⟨by first|rfl|exact bP (by simp<;>omega),hB1⟩
   ·have hr:(true&&decide (0≤x)&&decide (x<(H.length:Int))&&decide (0≤y)&&decide (y<(H.length:Int)))=false:=(by simp;omega);obtain rfl:q=false:=hq.symm.trans hr;clear hr hq;go_wp2;go_ret;exact⟨by first|rfl|exact bP (by simp<;>omega),hB1⟩
  ·have hr:(true&&decide (0≤x)&&decide (x<(H.length:Int))&&decide (0≤y)&&decide (y<(H.length:Int)))=false:=(by simp;omega);obtain rfl:q=false:=hq.symm.trans hr;clear hr hq;go_wp2;go_ret;exact⟨by first|rfl|exact bP (by simp<;>omega),hB1⟩
theorem JL{H:List Txn}{a b:Nat}{d:Cho}(ha:d.a=(a:Int))(hb:d.b=(b:Int))(h1:a<H.length)(h2:b<H.length):jM H a b d=dB H d:=by
 unfold jM dB;have e:decide ((a:Int)≠(b:Int))=decide (a≠b):=(by rw[Bool.eq_iff_iff];simp only[decide_eq_true_eq,ne_eq];omega);rw[ha,hb,pJ h1,pJ h2,e,decide_eq_true (rfl:(a:Int)=(a:Int)),decide_eq_true (rfl:(b:Int)=(b:Int)),Bool.true_and,Bool.true_and]
theorem Mw{H:List Txn}{a b:Nat}{d:Cho}(h:d.a≠(a:Int)∨d.b≠(b:Int)):jM H a b d=false:=by
 unfold jM;rcases h with h|h<;>simp[h]
set_option maxRecDepth 100000 in
theorem qE(A:Option Addr)(c:Nat)(H:List Txn)(Al:Option Addr)(cl:Nat)(l:List Cho)(x y:Int)(w:World)(h:aF w (Old w) (.slice A H.length c) H)(hn:aB H)(hl:bq w (Old w) (.slice Al l.length cl) l)(hln:l.length≤1000000000):
 Calls Tryz.prog 230 #[.agg #[.slice A H.length c],.slice Al l.length cl,.int .i64 x,.int .i64 y] w fun e w'=>e= .returned (.bool (aK H l x y))∧Below w.heap.size w w':=by
 obtain⟨W0,hW0⟩:∃W0,w.alloc (.cells #[.slice A H.length c] 24)=W0:=⟨_,rfl⟩;have hB:=ah (Below.refl w.heap.size w) hW0 (Nat.le_refl _);have k0:=Blk.newEq hW0;have hh:=hide (fun W hb=>h.below (w':=W) hb);have hhl:=hide (fun W hb=>hl.below (w':=W) hb);have htw:=hide (yD A c H x y W0 (h.below hB) hn);have c0:=Blk.n0 k0;obtain⟨q,hq⟩:∃q,aK H l x y=q:=⟨_,rfl⟩;rw[hq];unfold aK at hq;obtain⟨t,htt⟩:∃t,nP H x y=t:=⟨_,rfl⟩;rw[htt]at htw hq;replace hq:=hide hq;replace htt:=hide htt;replace hn:=hide hn;clear h hl;go_enter Tryz.func230,Tryz.ntmps230;go_wp2_with fail;clear hW0;refine htw.out.mono ?_;rintro e w1 ⟨rfl,hb1⟩;have hB1:=hB.trans (hb1.mono hB.size);replace k0:=k0.below hb1 k0.lt;have c0:=Blk.n0 k0;clear htw hb1 hB;cases t with
 |false=>
  obtain rfl:q=false:=hq.out.symm;clear hq htt;go_wp2;go_ret;exact⟨rfl,hB1⟩
 |true=>
  obtain⟨hr,a,b,rfl,rfl,ha,hb⟩:=oJ.1 htt.out;have ha0:(0:Int)≤(a:Int):=Int.natCast_nonneg _;have hb0:(0:Int)≤(b:Int):=Int.natCast_nonneg _;have ha1:(a:Int)<(H.length:Int):=(by omega);have hb1:(b:Int)<(H.length:Int):=(by omega);have hqq:(soE H a b||vJ H a b||lM H l a b)=q:=(by have:=hq.out;simpa[Om]using this);replace hqq:=hide hqq;clear hq htt hr;obtain⟨bt,off,Aw,cw,Ar,cr,rfl,hbK,e0,e1,e2,-,hrs⟩:=aF.at_ (hh.out w1 hB1) hb;obtain⟨bt',off',Bw,cw',Br,cr',he,-,g0,-,-,-,-⟩:=aF.at_ (hh.out w1 hB1) ha;simp only[Option.some.injEq,Addr.mk.injEq,and_true]at he;obtain⟨rfl,rfl⟩:=he;have hso:soE H a b=(decide (a<b)&&decide (H[a].bL=H[b].bL)):=by
   unfold soE;simp[ha,hb,aO]
  have hre:vJ H a b=H[b].reads.any fun r=>decide (r.b=(a:Int)):=by
   unfold vJ;rw[aO hb]
  rw[hso,hre]at hqq;have hrl:H[b].reads.length≤1000000:=(hn.out.2 _ (List.getElem_mem hb)).2;clear hso hre hrs;have hqs:(H[a].bL==H[b].bL)=decide (H[a].bL=H[b].bL):=(by rw[Bool.eq_iff_iff];simp);rw[←hqs]at hqq;clear hqs;have hcut:Hid (∀z,(decide (a<b)&&(H[a].bL==H[b].bL))=z→(decide ((a:Int)<(b:Int))=false∧decide (a<b)=false∧z=false)∨(decide ((a:Int)<(b:Int))=true∧decide (a<b)=true∧(H[a].bL==H[b].bL)=z)):=hide (by
   rintro z rfl;by_cases e:a<b
   ·exact .inr ⟨decide_eq_true (by omega),decide_eq_true e,by simp[e]⟩
   ·exact .inl ⟨decide_eq_false (by omega),decide_eq_false e,by simp[e]⟩)
  obtain⟨z,hz⟩:∃z,(decide (a<b)&&(H[a].bL==H[b].bL))=z:=⟨_,rfl⟩;have hcu:=hcut.out z hz;rw[hz]at hqq;clear hcut hz;go_upto_region 4 with fail;go_cut [36] (fun s36 wz=>s36= .bool z∧Below w1.heap.size w1 wz);case first=>
   rcases hcu with⟨q1,q0,rfl⟩|⟨q1,q0,q2⟩
   ·go_wp2;go_quiet (fail);go_wp2
    go_meet
    exact⟨rfl,⟨rfl,rfl,rfl,Nat.le_refl _,fun _ _=>rfl⟩⟩
   ·go_wp2;go_quiet (fail);go_wp2
    go_meet
    exact⟨rfl,⟨rfl,rfl,rfl,Nat.le_refl _,fun _ _=>rfl⟩⟩
  case rest=>
   obtain⟨rfl,hbc⟩:=hcut;have hB2:=hB1.trans (hbc.mono hB1.size);replace k0:=k0.below hbc k0.lt;clear hcu e0 e1 e2 g0 hbc hB1 c0;cases z with
   |true=>
    obtain rfl:q=true:=(by have:=hqq.out;simpa using this.symm);clear hqq;go_wp2;go_ret;exact⟨rfl,hB2⟩
   |false=>
    rw[Bool.false_or]at hqq;go_upto_region 7 with fail;go_loopw [10] (fun s10 wr=>∃i:Nat,i≤H[b].reads.length∧s10= .int .i64 i∧Hid (∀j (hj:j<H[b].reads.length),j<i→decide (H[b].reads[j].b=(a:Int))=false)∧Below w.heap.size w wr∧Blk wr w.heap.size 24 #[.slice (some ⟨bt,off,none⟩) H.length c]) (fun s10 _=>H[b].reads.length-(intOf s10).toNat);case atStart=>exact⟨0,Nat.zero_le _,by go_num,hide (fun j hj h=>absurd h (by omega)),hB2,k0⟩
    case round=>
     clear hB2 k0;obtain⟨i,hi,rfl,hall,hB2,k0⟩:=hrel;obtain⟨Wr,rfl⟩:∃Wr,Wr=wr:=⟨_,rfl⟩;have hi0:(0:Int)≤(i:Int):=Int.natCast_nonneg _;have c0:=Blk.n0 k0;obtain⟨bt2,off2,Aw2,cw2,Ar2,cr2,he,-,e0,e1,e2,-,hrs⟩:=aF.at_ (hh.out Wr hB2) hb;simp only[Option.some.injEq,Addr.mk.injEq,and_true]at he;obtain⟨rfl,rfl⟩:=he;by_cases hlt:i<H[b].reads.length
     ·have hi1:(i:Int)<(H[b].reads.length:Int):=(by omega);obtain⟨b3,Nh,rfl,-,r0,r1⟩:=ItS.at_ hrs hlt;by_cases hh1:H[b].reads[i].b=(a:Int)
      ·have hhb:(H[b].reads[i].b==(a:Int))=true:=(by simpa using hh1);obtain rfl:q=true:=by
        have h1:(H[b].reads.any fun r=>decide (r.b=(a:Int)))=true:=List.any_eq_true.2 ⟨_,List.getElem_mem hlt,by simp[hh1]⟩;have:=hqq.out;rw[h1]at this;simpa using this.symm
       clear hqq hall hh1 hrs;go_wp2;go_ret;exact⟨rfl,hB2⟩
      ·have hhb:(H[b].reads[i].b==(a:Int))=false:=(by simpa using hh1);have gF:Hid (∀j (hj:j<H[b].reads.length),j<i+1→decide (H[b].reads[j].b=(a:Int))=false):=hide (fun j hj hji=>by
        rcases Nat.lt_or_ge j i with g|g
        ·exact hall.out j hj g
        ·obtain rfl:j=i:=(by omega);exact decide_eq_false hh1)
       clear hall hh1 hrs;go_wp2;go_roundw;case rel=>exact⟨i+1,by omega,by go_num,gF,hB2,k0⟩
       case measure=>simp[intOf]<;>omega
     ·obtain rfl:i=H[b].reads.length:=(by omega);have Nq:Hid (lM H l a b=q):=hide (by
       have h1:(H[b].reads.any fun r=>decide (r.b=(a:Int)))=false:=by
        rw[List.any_eq_false];intro r hr;obtain⟨j,hj,rfl⟩:=List.getElem_of_mem hr;have:=hall.out j hj hj;simpa using this
       have:=hqq.out;rw[h1]at this;simpa using this)
      clear hqq hall hrs;go_upto_region 12 with fail;go_loopw [11] (fun s11 wr=>∃k:Nat,k≤l.length∧s11= .int .i64 k∧Hid (∀j (hj:j<l.length),j<k→jM H a b l[j]=false)∧Below w.heap.size w wr∧Blk wr w.heap.size 24 #[.slice (some ⟨bt,off,none⟩) H.length c]) (fun s11 _=>l.length-(intOf s11).toNat);case atStart=>exact⟨0,Nat.zero_le _,by go_num,hide (fun j hj h=>absurd h (by omega)),hB2,k0⟩
      case round=>
       clear hB2 k0 e0 e1 e2 c0;obtain⟨k,hk,rfl,hall,hB2,k0⟩:=hrel;obtain⟨Wk,rfl⟩:∃Wk,Wk=wr:=⟨_,rfl⟩;have hk0:(0:Int)≤(k:Int):=Int.natCast_nonneg _;have c0:=Blk.n0 k0;by_cases hkt:k<l.length
       ·have hk1:(k:Int)<(l.length:Int):=(by omega);obtain⟨b3,Nh,rfl,-,d0,d1,d2⟩:=bq.at_ (hhl.out Wk hB2) hkt;have hst:Hid (jM H a b l[k]=false→∀j (hj:j<l.length),j<k+1→jM H a b l[j]=false):=hide (fun g j hj hji=>by
         rcases Nat.lt_or_ge j k with g2|g2
         ·exact hall.out j hj g2
         ·obtain rfl:j=k:=(by omega);exact g)
        have hyes:Hid (jM H a b l[k]=true→lM H l a b=true):=hide (fun g=>List.any_eq_true.2 ⟨_,List.getElem_mem hkt,g⟩);have hone:=hide (fun(g1:l[k].a=(a:Int)) (g2:l[k].b=(b:Int))=>JL g1 g2 ha hb);have JM:=hide (fun(g1:l[k].a≠(a:Int)∨l[k].b≠(b:Int))=>Mw (H:=H) g1);have hoc:=hide (nJ (some ⟨bt,off,none⟩) c H l[k] Wk (hh.out Wk hB2) hn.out);clear hall;generalize l[k]=d at*;obtain⟨dk,da,db⟩:=d;dsimp only at d0 d1 d2 hone JM hoc;by_cases q1:da=(a:Int)
        ·by_cases q2:db=(b:Int)
         ·have q1b:(da !=(a:Int))=false:=(by simp[q1]);have q2b:(db !=(b:Int))=false:=(by simp[q2]);have ho:=hone.out q1 q2;rw[ho]at hst hyes;obtain⟨o,ho⟩:∃o,dB H ⟨dk,da,db⟩=o:=⟨_,rfl⟩;rw[ho]at hst hyes;replace ho:=hide ho;clear hone JM hoc q1 q2;go_upto_region 15 with fail;refine aY [0,1,2,3,4] [5,6] (by kernel_rfl) (by kernel_rfl) (fun _ _ d _ _ h=>by cases d<;>exact h) ?_;simp only[List.filterMap_cons,List.filterMap_nil,gZ,gS];repeat still_step
          refine wpStill_nil ?_;go_wp2_with fail;refine(nJ (some ⟨bt,off,none⟩) c H ⟨dk,da,db⟩ _ (aF.keep (hh.out Wk hB2) (Agree.drewN _ _ _) (fun b h=>h)) hn.out).mono ?_;rintro e W5 ⟨rfl,ni⟩;have hb5:Below Wk.heap.size Wk W5:=⟨ni.os,ni.tape,ni.output,ni.size,ni.block⟩;have hB5:=hB2.trans (hb5.mono hB2.size);replace k0:=k0.below hb5 k0.lt;rw[ho.out];clear ho ni hb5 c0 d0 d1 d2;cases o with
          |true=>
           obtain rfl:q=true:=Nq.out.symm.trans (hyes.out rfl);clear hst hyes Nq;go_wp2;go_ret;exact⟨rfl,hB5⟩
          |false=>
           have gF:=hide (hst.out rfl);clear hst hyes;go_wp2;go_roundw;case rel=>exact⟨k+1,by omega,by go_num,gF,hB5,k0⟩
           case measure=>simp[intOf]<;>omega
         ·have q1b:(da !=(a:Int))=false:=(by simp[q1]);have q2b:(db !=(b:Int))=true:=(by simp[q2]);have gF:=hide (hst.out (JM.out (.inr q2)));clear hone JM hst hyes hoc q1 q2;go_wp2;go_roundw;case rel=>exact⟨k+1,by omega,by go_num,gF,hB2,k0⟩
          case measure=>simp[intOf]<;>omega
        ·have q1b:(da !=(a:Int))=true:=(by simp[q1]);have gF:=hide (hst.out (JM.out (.inl q1)));clear hone JM hst hyes hoc q1;go_wp2;go_roundw;case rel=>exact⟨k+1,by omega,by go_num,gF,hB2,k0⟩
         case measure=>simp[intOf]<;>omega
       ·obtain rfl:k=l.length:=(by omega);obtain rfl:q=false:=by
         have h1:lM H l a b=false:=by
          unfold lM;rw[List.any_eq_false];intro r hr;obtain⟨j,hj,rfl⟩:=List.getElem_of_mem hr;rw[hall.out j hj hj];exact Bool.false_ne_true
         exact Nq.out.symm.trans h1
        clear Nq hall;go_wp2;go_ret;exact⟨rfl,hB2⟩
set_option maxHeartbeats 8000000
theorem F5{H:List Txn}{level:Int}{L:List Fct}{f:Fct}(hk:f.kind=1∨f.kind=3):aR H level L f=(lQ H level&&dB H f.c&&decide (f.cyc=[])&&(if f.kind=1 then axB H f else nL H f)):=by
 unfold aR nQ;rcases hk with e|e
 ·rw[if_pos e,if_pos e,decide_eq_false (show¬f.kind=4 by omega)];rfl
 ·rw[if_neg (show¬f.kind=1 by omega),if_neg (show¬f.kind=2 by omega),if_pos e,if_neg (show¬f.kind=1 by omega),decide_eq_false (show¬f.kind=4 by omega)];rfl
set_option maxHeartbeats 4000000
set_option maxRecDepth 100000 in
theorem vB(A:Option Addr)(c:Nat)(H:List Txn)(x y:Int)(w:World)(h:aF w (Old w) (.slice A H.length c) H)(hn:aB H):
 Calls Tryz.prog 185 #[.agg #[.slice A H.length c],.int .i64 x,.int .i64 y] w fun e w'=>e= .returned (.bool (aK H [] x y))∧Below w.heap.size w w':=by
 obtain⟨W0,hW0⟩:∃W0,w.alloc (.cells #[.slice A H.length c] 24)=W0:=⟨_,rfl⟩;have hB:=ah (Below.refl w.heap.size w) hW0 (Nat.le_refl _);have k0:=Blk.newEq hW0;have hd:=hide (qE A c H none 0 [] x y W0 (h.below hB) hn (SlR.nil _ _ _ _ _ _) (by simp));have c0:=Blk.n0 k0;generalize aK H [] x y=q at*;clear h;go_enter Tryz.func185,Tryz.ntmps185;go_wp2_with fail;clear hW0;refine Calls.mono hd.out ?_;rintro e w1 ⟨rfl,hb1⟩;go_wp2;go_ret;exact⟨rfl,hB.trans (hb1.mono hB.size)⟩
theorem JN{R:List It}(hr:(R.map (·.a)).Pairwise (·<·))(key s:Int):(R.any fun x=>decide (x.a=key)&&decide (x.b=s))=((jq R key).2&&decide ((jq R key).1=s)):=by
 unfold jq
 induction R with
 |nil=>simp
 |cons r R ih=>
  rw[List.map_cons,List.pairwise_cons]at hr;rw[List.any_cons,List.find?_cons];by_cases e:r.a=key
  ·have hb:(r.a==key)=true:=(by simpa using e);rw[hb,decide_eq_true e];dsimp only;have hno:(R.any fun x=>decide (x.a=key)&&decide (x.b=s))=false:=by
    rw[List.any_eq_false];intro x hx;have:=hr.1 x.a (List.mem_map_of_mem hx);have hne:x.a≠key:=(by omega);simp[hne]
   rw[hno];simp
  ·have hb:(r.a==key)=false:=(by simpa using e);rw[hb,decide_eq_false e,Bool.false_and,Bool.false_or];exact ih hr.2
theorem F6{H:List Txn}(hr:aC H=true){t:Nat}(ht:t<H.length):(H[t].reads.map (·.a)).Pairwise (·<·):=(((aA H).1 hr).2 t ht).J5
set_option maxRecDepth 100000 in
theorem DR(A:Option Addr)(c:Nat)(H:List Txn)(f:Fct)(Ac:Option Addr)(nc cc:Nat)(w:World)(h:aF w (Old w) (.slice A H.length c) H)(hn:aB H)(hr:aC H=true):
 Calls Tryz.prog 187 #[.agg #[.slice A H.length c],.agg #[.int .i64 f.c.key,.int .i64 f.c.a,.int .i64 f.c.b,.int .i64 f.kind,.int .i64 f.i,.int .i64 f.j,.slice Ac nc cc]] w fun e w'=>e= .returned (.bool (nL H f))∧Below w.heap.size w w':=by
 obtain⟨⟨xk,xa,xb⟩,fk,fi,fj,fy⟩:=f;dsimp only;obtain⟨W0,hW0⟩:∃W0,(w.alloc (.cells #[.slice A H.length c] 24)).alloc (.cells #[.int .i64 xk,.int .i64 xa,.int .i64 xb,.int .i64 fk,.int .i64 fi,.int .i64 fj,.slice Ac nc cc] 120)=W0:=⟨_,rfl⟩;have hB:=aG hW0;have k0:=Blk.fC hW0;have k1:=Blk.dQ hW0;have hh:=hide (fun W hb=>h.below (w':=W) hb);obtain⟨q,hq⟩:∃q,nL H ⟨⟨xk,xa,xb⟩,fk,fi,fj,fy⟩=q:=⟨_,rfl⟩;rw[hq];unfold nL at hq;dsimp only at hq;have c0:=Blk.n0 k0;have f0:=Blk.n0 k1;have f1:=Blk.n1 k1;have f2:=Blk.n2 k1;have f4:=Blk.n4 k1;have f5:=Blk.n5 k1;replace hq:=hide hq;replace hn:=hide hn;replace hr:=hide hr;clear h;go_enter Tryz.func187,Tryz.ntmps187;go_upto_region 1 with fail;clear hW0;replace hq:=hq.out;by_cases q1:fi<0
 ·have hrr:(decide (fj=0)&&decide (fi≠xa)&&decide (0≤fi)&&decide (fi<(H.length:Int))&&((aL H fi.toNat).reads.any fun x=>decide (x.a=xk)&&decide (x.b=xb))&&aK H [] xa fi)=false:=by
   rw[decide_eq_false (show¬0≤fi by omega)];simp
  obtain rfl:q=false:=hq.symm.trans hrr;clear hrr hq;go_wp2;go_ret;exact⟨by first|rfl|exact bP (by simp<;>omega),hB⟩
 ·by_cases q2:fi≥(H.length:Int)
  ·have hrr:(decide (fj=0)&&decide (fi≠xa)&&decide (0≤fi)&&decide (fi<(H.length:Int))&&((aL H fi.toNat).reads.any fun x=>decide (x.a=xk)&&decide (x.b=xb))&&aK H [] xa fi)=false:=by
    rw[decide_eq_false (show¬fi<(H.length:Int) by omega)];simp
   obtain rfl:q=false:=hq.symm.trans hrr;clear hrr hq;go_wp2;go_ret;exact⟨by first|rfl|exact bP (by simp<;>omega),hB⟩
  ·by_cases q3:fi=xa
   ·have q3b:(fi==xa)=true:=(by simpa using q3);have hrr:(decide (fj=0)&&decide (fi≠xa)&&decide (0≤fi)&&decide (fi<(H.length:Int))&&((aL H fi.toNat).reads.any fun x=>decide (x.a=xk)&&decide (x.b=xb))&&aK H [] xa fi)=false:=by
     rw[decide_eq_false (show¬fi≠xa by simpa using q3)];simp
    clear q3;obtain rfl:q=false:=hq.symm.trans hrr;clear hrr hq;go_wp2;go_ret;exact⟨by first|rfl|exact bP (by simp<;>omega),hB⟩
   ·have q3b:(fi==xa)=false:=(by simpa using q3);by_cases q4:fj=0
    ·obtain⟨t,rfl⟩:∃t:Nat,fi=t:=⟨fi.toNat,by omega⟩;have ht:t<H.length:=(by omega);have q4b:(fj !=0)=false:=(by simp[q4]);rw[decide_eq_true q4,decide_eq_true q3,decide_eq_true (show(0:Int)≤(t:Int) by omega),decide_eq_true (show(t:Int)<(H.length:Int) by omega)]at hq;simp only[Bool.true_and,Int.toNat_natCast]at hq;rw[aO ht,JN (F6 hr.out ht)]at hq;have hfr:=hide (vv A c H t xk W0 (hh.out W0 hB) hr.out hn.out ht);replace hq:=hide hq;clear q3 q4;go_wp2_with fail;refine hfr.out.mono ?_;rintro e w1 ⟨rfl,hb1⟩;have hB1:=hB.trans (hb1.mono hB.size);replace k0:=k0.below hb1 k0.lt;replace k1:=k1.below hb1 k1.lt;have c0:=Blk.n0 k0;have f0:=Blk.n0 k1;have f1:=Blk.n1 k1;have f2:=Blk.n2 k1;have f4:=Blk.n4 k1;have hpa:=hide (vB A c H xa t w1 (hh.out w1 hB1) hn.out);obtain⟨p,hp⟩:∃p,aK H [] xa t=p:=⟨_,rfl⟩;rw[hp]at hpa hq;generalize jq H[t].reads xk=r at*;obtain⟨rb,ri⟩:=r;dsimp only at hq⊢;clear hfr hb1 hB hp;cases ri with
     |false=>
      obtain rfl:q=false:=(by have:=hq.out;simpa using this.symm);clear hq hpa;go_wp2;go_ret;exact⟨rfl,hB1⟩
     |true=>
      by_cases e:rb=xb
      ·have eb:(rb !=xb)=false:=(by simp[e]);have hq2:Hid (p=q):=hide (by have:=hq.out;rw[decide_eq_true e]at this;simpa using this);clear hq e;go_wp2_with fail;refine Calls.mono hpa.out ?_;rintro e w2 ⟨rfl,hb2⟩;go_wp2;go_ret;exact⟨bP hq2.out,hB1.trans (hb2.mono hB1.size)⟩
      ·have eb:(rb !=xb)=true:=(by simp[e]);obtain rfl:q=false:=(by have:=hq.out;rw[decide_eq_false e]at this;simpa using this.symm);clear hq e hpa;go_wp2;go_ret;exact⟨rfl,hB1⟩
    ·have q4b:(fj !=0)=true:=(by simpa using q4);have hrr:(decide (fj=0)&&decide (fi≠xa)&&decide (0≤fi)&&decide (fi<(H.length:Int))&&((aL H fi.toNat).reads.any fun x=>decide (x.a=xk)&&decide (x.b=xb))&&aK H [] xa fi)=false:=by
      rw[decide_eq_false q4];simp
     clear q3 q4;obtain rfl:q=false:=hq.symm.trans hrr;clear hrr hq;go_wp2;go_ret;exact⟨by first|rfl|exact bP (by simp<;>omega),hB⟩
set_option maxRecDepth 100000 in
theorem yE(A:Option Addr)(c:Nat)(H:List Txn)(level:Int)(Al:Option Addr)(nl cl:Nat)(L:List Fct)(f:Fct)(Ac:Option Addr)(cc:Nat)(w:World)(h:aF w (Old w) (.slice A H.length c) H)(hn:aB H)(hk:f.kind=1∨f.kind=3):
 Calls Tryz.prog 120 #[.agg #[.slice A H.length c],.int .i64 level,.slice Al nl cl,.agg #[.int .i64 f.c.key,.int .i64 f.c.a,.int .i64 f.c.b,.int .i64 f.kind,.int .i64 f.i,.int .i64 f.j,.slice Ac f.cyc.length cc]] w fun e w'=>e= .returned (.bool (aR H level L f))∧Below w.heap.size w w':=by
 have hfm:=F5 (H:=H) (level:=level) (L:=L) hk;have hse:=hide (fun W hT hr=>DR A c H f Ac f.cyc.length cc W hT hn hr);obtain⟨q,hq⟩:∃q,aR H level L f=q:=⟨_,rfl⟩;rw[hq];rw[hfm]at hq;clear hfm;have hcy:f.cyc=[]↔f.cyc.length=0:=(by cases f.cyc<;>simp);have hfx:(if f.kind=1 then axB H f else nL H f)=(if f.kind=1 then(decide (f.i=0)&&decide (f.j=0)&&aK H [] f.c.a f.c.b)else nL H f):=rfl;rw[hfx]at hq;clear hfx;obtain⟨sv,hsv⟩:∃sv,nL H f=sv:=⟨_,rfl⟩;rw[hsv]at hq hse;clear hsv;have hone:=hide (fun W hT=>nJ A c H f.c W hT hn);obtain⟨o,ho⟩:∃o,dB H f.c=o:=⟨_,rfl⟩;rw[ho]at hq hone;clear ho;obtain⟨⟨xk,xa,xb⟩,fk,fi,fj,fy⟩:=f;dsimp only at hk hq hcy hse hone⊢;rw[show decide (fy=[])=decide (fy.length=0) by rw[Bool.eq_iff_iff,decide_eq_true_eq,decide_eq_true_eq];exact hcy]at hq;generalize fy.length=nc at*;obtain⟨W0,hW0⟩:∃W0,(w.alloc (.cells #[.slice A H.length c] 24)).alloc (.cells #[.int .i64 xk,.int .i64 xa,.int .i64 xb,.int .i64 fk,.int .i64 fi,.int .i64 fj,.slice Ac nc cc] 120)=W0:=⟨_,rfl⟩;have hB:=aG hW0;have k0:=Blk.fC hW0;have k1:=Blk.dQ hW0;have hh:=hide (fun W hb=>h.below (w':=W) hb);have hrc:=hide (gG A c H W0 (h.below hB) hn);have c0:=Blk.n0 k0;replace hq:=hide hq;replace hn:=hide hn;clear h hcy;go_enter Tryz.func120,Tryz.ntmps120;go_wp2_with fail;clear hW0;refine Calls.mono hrc.out ?_;rintro e w1 ⟨rfl,hb1⟩;have hB1:=hB.trans (hb1.mono hB.size);replace k0:=k0.below hb1 k0.lt;replace k1:=k1.below hb1 k1.lt;have c0:=Blk.n0 k0;have f0:=Blk.n0 k1;have f1:=Blk.n1 k1;have f2:=Blk.n2 k1;have f3:=Blk.n3 k1;have f4:=Blk.n4 k1;have f5:=Blk.n5 k1;have f6:=Blk.n6 k1;clear hrc hb1 hB;unfold lQ at hq;cases hr:aC H with
 |false=>
  obtain rfl:q=false:=(by have:=hq.out;rw[hr]at this;simpa using this.symm);clear hq hr;go_wp2;go_ret;exact⟨rfl,hB1⟩
 |true=>
  by_cases hlv:level=0∨level=1
  ·have hlb:(level !=0)=false∨((level !=0)=true∧(level !=1)=false):=by
    rcases hlv with rfl|rfl
    ·left;rfl
    ·right;exact⟨rfl,rfl⟩
   have hq2:Hid ((o&&decide (nc=0)&&if fk=1 then(decide (fi=0)&&decide (fj=0)&&aK H [] xa xb)else sv)=q):=hide (by
    have:=hq.out;rw[hr]at this;rcases hlv with rfl|rfl<;>simpa using this)
   clear hlv hq;replace hr:=hide hr;have Ta:(fk !=4)=true:=(by rcases hk with rfl|rfl<;>rfl);have hoc:=hide (hone.out w1 (hh.out w1 hB1));clear hone;rcases hlb with hlb|⟨hlb,QE⟩;all_goals
    go_wp2_with fail;refine Calls.mono hoc.out ?_;rintro e w2 ⟨rfl,hb2⟩;have hB2:=hB1.trans (hb2.mono hB1.size);replace k0:=k0.below hb2 k0.lt;replace k1:=k1.below hb2 k1.lt;have c0:=Blk.n0 k0;have f0:=Blk.n0 k1;have f1:=Blk.n1 k1;have f2:=Blk.n2 k1;have f3:=Blk.n3 k1;have f4:=Blk.n4 k1;have f5:=Blk.n5 k1;have f6:=Blk.n6 k1;clear hb2 hB1 hoc;cases o with
    |false=>
     obtain rfl:q=false:=(by have:=hq2.out;simpa using this.symm);clear hq2 hr;go_wp2;go_ret;exact⟨rfl,hB2⟩
    |true=>
     by_cases hnc:nc=0
     ·subst hnc;have hq3:Hid ((if fk=1 then(decide (fi=0)&&decide (fj=0)&&aK H [] xa xb)else sv)=q):=hide (by have:=hq2.out;simpa using this);clear hq2;rcases hk with rfl|rfl
      ·have hpa:=hide (vB A c H xa xb w2 (hh.out w2 hB2) hn.out);obtain⟨p,hp⟩:∃p,aK H [] xa xb=p:=⟨_,rfl⟩;rw[hp]at hpa hq3;have hq4:Hid ((decide (fi=0)&&decide (fj=0)&&p)=q):=hide (by have:=hq3.out;simpa using this);clear hp hq3 hr;go_wp2_with fail;refine Calls.mono hpa.out ?_;rintro e w3 ⟨rfl,hb3⟩;have hB3:=hB2.trans (hb3.mono hB2.size);replace k1:=k1.below hb3 k1.lt;have f4:=Blk.n4 k1;have f5:=Blk.n5 k1;clear hpa hb3 hB2;cases p with
       |false=>
        obtain rfl:q=false:=(by have:=hq4.out;simpa using this.symm);clear hq4;go_wp2;go_ret;exact⟨rfl,hB3⟩
       |true=>
        by_cases e1:fi=0
        ·have e1b:(fi==0)=true:=(by simp[e1]);have hq5:Hid ((fj==0)=q):=hide (by have:=hq4.out;rw[decide_eq_true e1,Bool.true_and,Bool.and_true]at this;rw[←this,Bool.eq_iff_iff];simp);clear hq4 e1;go_wp2;go_ret;exact⟨bP hq5.out,hB3⟩
        ·have e1b:(fi==0)=false:=(by simpa using e1);obtain rfl:q=false:=(by have:=hq4.out;rw[decide_eq_false e1]at this;simpa using this.symm);clear hq4 e1;go_wp2;go_ret;exact⟨rfl,hB3⟩
      ·have hsc:=hide (hse.out w2 (hh.out w2 hB2) hr.out);have hq4:Hid (sv=q):=hide (by have:=hq3.out;simpa using this);clear hq3 hr;go_wp2_with fail;refine Calls.mono hsc.out ?_;rintro e w3 ⟨rfl,hb3⟩;go_wp2;go_ret;exact⟨bP hq4.out,hB2.trans (hb3.mono hB2.size)⟩
     ·have hn0:(nc:Int)>0:=(by omega);obtain rfl:q=false:=(by have:=hq2.out;rw[decide_eq_false hnc]at this;simpa using this.symm);clear hq2 hr hnc;go_wp2;go_ret;exact⟨rfl,hB2⟩
  ·have h0:(level !=0)=true:=(by rw[bne_iff_ne];omega);have h1:(level !=1)=true:=(by rw[bne_iff_ne];omega);obtain rfl:q=false:=by
    have:=hq.out;rw[decide_eq_false (show¬level=0 by omega),decide_eq_false (show¬level=1 by omega)]at this;simpa using this.symm
   clear hlv hq hr;go_wp2;go_ret;exact⟨rfl,hB1⟩
set_option maxHeartbeats 8000000
theorem Mx{k a b xk xa xb yk ya yb:Int}:(decide (xb=ya)&&decide (xk=yk)&&decide ((⟨k,a,b⟩:Cho)=⟨xk,xa,yb⟩))=((xk==k)&&((yk==k)&&((xa==a)&&((yb==b)&&(xb==ya))))):=by
 rw[Bool.eq_iff_iff];simp only[Bool.and_eq_true,decide_eq_true_eq,beq_iff_eq,Cho.mk.injEq];constructor
 ·rintro⟨⟨h1,h2⟩,h3,h4,h5⟩;omega
 ·rintro⟨h1,h2,h3,h4,h5⟩;omega
set_option maxRecDepth 100000 in
theorem y9(Al:Option Addr)(cl:Nat)(L:List Fct)(f:Fct)(vc:Value)(w:World)(hL:bF w (Old w) (.slice Al L.length cl) L)(hn:L.length≤1000000):
 Calls Tryz.prog 186 #[.slice Al L.length cl,.agg #[.int .i64 f.c.key,.int .i64 f.c.a,.int .i64 f.c.b,.int .i64 f.kind,.int .i64 f.i,.int .i64 f.j,vc]] w fun e w'=>e= .returned (.bool (sF L f))∧Below w.heap.size w w':=by
 obtain⟨⟨key,a,b⟩,kind,i,j,cyc⟩:=f;dsimp only;obtain⟨W0,hW0⟩:∃W0,w.alloc (.cells #[.int .i64 key,.int .i64 a,.int .i64 b,.int .i64 kind,.int .i64 i,.int .i64 j,vc] 120)=W0:=⟨_,rfl⟩;have hB:=ah (Below.refl w.heap.size w) hW0 (Nat.le_refl _);have k0:=Blk.newEq hW0;have hLS:=hide (fun W (hb:Below w.heap.size w W)=>hL.below hb);obtain⟨r,hr⟩:∃r,sF L ⟨⟨key,a,b⟩,kind,i,j,cyc⟩=r:=⟨_,rfl⟩;have hre:Hid (r=(decide (0≤i)&&decide (i<(L.length:Int))&&decide (0≤j)&&decide (j<(L.length:Int))&&
  match L[i.toNat]?,L[j.toNat]? with
  |some x,some y=>decide (x.c.b=y.c.a)&&decide (x.c.key=y.c.key)&&decide ((⟨key,a,b⟩:Cho)=⟨x.c.key,x.c.a,y.c.b⟩)
  |_,_=>false)):=hide hr.symm
 rw[hr];have c0:=Blk.n0 k0;have c1:=Blk.n1 k0;have c2:=Blk.n2 k0;have c4:=Blk.n4 k0;have c5:=Blk.n5 k0;clear hr hL;go_enter Tryz.func186,Tryz.ntmps186;by_cases q1:i<0
 ·have hrq:r=false:=(by rw[hre.out,decide_eq_false (show¬0≤i by omega)];simp);subst hrq;clear hre;go_wp2;go_ret;exact⟨rfl,hB⟩
 ·by_cases q2:i≥(L.length:Int)
  ·have hrq:r=false:=(by rw[hre.out,decide_eq_false (show¬i<(L.length:Int) by omega)];simp);subst hrq;clear hre;go_wp2;go_ret;exact⟨rfl,hB⟩
  ·by_cases q3:j<0
   ·have hrq:r=false:=(by rw[hre.out,decide_eq_false (show¬0≤j by omega)];simp);subst hrq;clear hre;go_wp2;go_ret;exact⟨rfl,hB⟩
   ·by_cases q4:j≥(L.length:Int)
    ·have hrq:r=false:=(by rw[hre.out,decide_eq_false (show¬j<(L.length:Int) by omega)];simp);subst hrq;clear hre;go_wp2;go_ret;exact⟨rfl,hB⟩
    ·obtain⟨m,rfl⟩:∃m:Nat,i=(m:Int):=⟨i.toNat,by omega⟩;obtain⟨n,rfl⟩:∃n:Nat,j=(n:Int):=⟨j.toNat,by omega⟩;have hm:m<L.length:=(by omega);have hnl:n<L.length:=(by omega);have hm0:(0:Int)≤(m:Int):=Int.natCast_nonneg _;have hn0:(0:Int)≤(n:Int):=Int.natCast_nonneg _;have hm1:(m:Int)<(L.length:Int):=(by omega);have hn1:(n:Int)<(L.length:Int):=(by omega);have iV:=hide (show r=(decide (L[m].c.b=L[n].c.a)&&decide (L[m].c.key=L[n].c.key)&&decide ((⟨key,a,b⟩:Cho)=⟨L[m].c.key,L[m].c.a,L[n].c.b⟩)) by
      rw[hre.out,Int.toNat_natCast,Int.toNat_natCast,List.getElem?_eq_getElem hm,List.getElem?_eq_getElem hnl,decide_eq_true hm0,decide_eq_true hm1,decide_eq_true hn0,decide_eq_true hn1];rfl)
     obtain⟨b0,off,Ay,cy,rfl,-,d⟩:=(hLS.out W0 hB).at_ hm;obtain⟨b1,off1,Az,cz,e,-,d'⟩:=(hLS.out W0 hB).at_ hnl;injection e with e
     injection e with e1 e2
     subst e1 e2;have x0:=d.d0;have x1:=d.d1;have x2:=d.d2;have hy:=hide (fun W (hb:Below w.heap.size w W)=>(by
      obtain⟨b1,off1,Ay,cy,e,-,d⟩:=(hLS.out W hb).at_ hnl;injection e with e
      injection e with e1 e2
      subst e1 e2;exact⟨d.d0,d.d1,d.d2⟩:W.cell? ⟨b0,off+n*7,none⟩=some (.int .i64 L[n].c.key)∧W.cell? ⟨b0,off+n*7+1,none⟩=some (.int .i64 L[n].c.a)∧W.cell? ⟨b0,off+n*7+2,none⟩=some (.int .i64 L[n].c.b)))
     clear d d' hLS hre;generalize L[m].c=xc at*;generalize L[n].c=yc at*;obtain⟨xk,xa,xb⟩:=xc;obtain⟨yk,ya,yb⟩:=yc;dsimp only at x0 x1 x2 hy iV;rw[Mx]at iV;go_upto_region 4 with fail;obtain⟨W1,hW1⟩:∃W1,W0.alloc (.cells #[.int .i64 xk,.int .i64 xa,.int .i64 xb] 102)=W1:=⟨_,rfl⟩;try rw[hW1]
     have hB1:=ah hB hW1 hB.size;have kx:=Blk.newEq hW1;replace k0:Blk W1 w.heap.size 120 #[.int .i64 key,.int .i64 a,.int .i64 b,.int .i64 kind,.int .i64 (m:Int),.int .i64 (n:Int),vc]:=(by rw[←hW1];exact k0.alloc _);obtain⟨y0,y1,y2⟩:=hy.out W1 hB1;have c5:=Blk.n5 k0;clear hB x0 x1 x2 c0 c1 c2 c4 hy hW1;go_upto_region 5 with fail;obtain⟨W2,hW2⟩:∃W2,W1.alloc (.cells #[.int .i64 yk,.int .i64 ya,.int .i64 yb] 102)=W2:=⟨_,rfl⟩;try rw[hW2]
     have hB2:=ah hB1 hW2 hB1.size;have ky:=Blk.newEq hW2;replace k0:Blk W2 w.heap.size 120 #[.int .i64 key,.int .i64 a,.int .i64 b,.int .i64 kind,.int .i64 (m:Int),.int .i64 (n:Int),vc]:=(by rw[←hW2];exact k0.alloc _);replace kx:Blk W2 W0.heap.size 102 #[.int .i64 xk,.int .i64 xa,.int .i64 xb]:=(by rw[←hW2];exact kx.alloc _);have c0:=Blk.n0 k0;have c1:=Blk.n1 k0;have c2:=Blk.n2 k0;have x0:=Blk.n0 kx;have x1:=Blk.n1 kx;have x2:=Blk.n2 kx;have z0:=Blk.n0 ky;have z1:=Blk.n1 ky;have z2:=Blk.n2 ky;clear hB1 y0 y1 y2 c5 hW2 hW0;obtain⟨v1,hv1⟩:∃v1,(xk==key)=v1:=⟨_,rfl⟩;obtain⟨v2,hv2⟩:∃v2,(yk==key)=v2:=⟨_,rfl⟩;obtain⟨v3,hv3⟩:∃v3,(xa==a)=v3:=⟨_,rfl⟩;obtain⟨v4,hv4⟩:∃v4,(yb==b)=v4:=⟨_,rfl⟩;obtain⟨v5,hv5⟩:∃v5,(xb==ya)=v5:=⟨_,rfl⟩;rw[hv1,hv2,hv3,hv4,hv5]at iV;cases v1
     ·obtain rfl:=iV.out;clear iV;go_wp2;go_ret;exact⟨rfl,hB2⟩
     ·cases v2
      ·obtain rfl:=iV.out;clear iV;go_wp2;go_ret;exact⟨rfl,hB2⟩
      ·cases v3
       ·obtain rfl:=iV.out;clear iV;go_wp2;go_ret;exact⟨rfl,hB2⟩
       ·cases v4
        ·obtain rfl:=iV.out;clear iV;go_wp2;go_ret;exact⟨rfl,hB2⟩
        ·have hrv:r=v5:=iV.out;clear iV;subst hrv;cases r<;>(go_wp2;go_ret;exact⟨rfl,hB2⟩)
set_option maxHeartbeats 4000000
set_option maxRecDepth 100000 in
theorem pY(A:Option Addr)(c:Nat)(L:List Cho)(x:Cho)(w:World)(h:bq w (Old w) (.slice A L.length c) L)(hn:L.length≤1000000):
 Calls Tryz.prog 61 #[.slice A L.length c,.agg #[.int .i64 x.key,.int .i64 x.a,.int .i64 x.b]] w fun e w'=>e= .returned (.bool (L.contains x))∧Below w.heap.size w w':=by
 obtain⟨xk,xa,xb⟩:=x;dsimp only;obtain⟨W0,hW0⟩:∃W0,w.alloc (.cells #[.int .i64 xk,.int .i64 xa,.int .i64 xb] 102)=W0:=⟨_,rfl⟩;have hB:=ah (Below.refl w.heap.size w) hW0 (Nat.le_refl _);have k0:=Blk.newEq hW0;replace h:=hide h;obtain⟨r,hr⟩:∃r,L.contains (⟨xk,xa,xb⟩:Cho)=r:=⟨_,rfl⟩;have hyes:=hide (fun k (hk:k<L.length) (he:L[k]=(⟨xk,xa,xb⟩:Cho))=>show r=true by rw[←hr,List.contains_iff_mem,←he];exact List.getElem_mem hk);have hno:=hide (fun(hall:∀k,(hk:k<L.length)→L[k]≠(⟨xk,xa,xb⟩:Cho))=>show r=false by
  rw[←hr,←Bool.not_eq_true,List.contains_iff_mem];intro hm;obtain⟨k,hk,e⟩:=List.getElem_of_mem hm;exact hall k hk e)
 rw[hr];clear hr;go_enter Tryz.func61,Tryz.ntmps61;go_wp2_with fail;clear hW0;go_loopw [5] (fun s5 wr=>Blk wr w.heap.size 102 #[.int .i64 xk,.int .i64 xa,.int .i64 xb]∧Below w.heap.size w wr∧∃k:Nat,k≤L.length∧s5= .int .i64 k∧Hid (∀j,j<k→(hj:j<L.length)→L[j]≠(⟨xk,xa,xb⟩:Cho))) (fun s5 _=>L.length-(intOf s5).toNat);case atStart=>exact⟨k0,hB,0,Nat.zero_le _,by go_num,hide (fun j hj=>absurd hj (Nat.not_lt_zero _))⟩
 case round=>
  clear k0 hB;obtain⟨Wo,rfl⟩:∃Wo,Wo=wr:=⟨_,rfl⟩;obtain⟨k0,hB,k,hk,rfl,hall⟩:=hrel;have hk1:(0:Int)≤(k:Int):=Int.natCast_nonneg _;by_cases hlt:k<L.length
  ·have hk2:(k:Int)<(L.length:Int):=(by omega);obtain⟨b,off,rfl,-,d0,d1,d2⟩:=bq.at_ (h.out.below hB) hlt;have hy:=hide (hyes.out k hlt);have gF:Hid (L[k]≠(⟨xk,xa,xb⟩:Cho)→∀j,j<k+1→(hj:j<L.length)→L[j]≠(⟨xk,xa,xb⟩:Cho)):=hide (fun hne j hj hj2=>by
    by_cases e:j=k
    ·subst e;exact hne
    ·exact hall.out j (by omega) hj2)
   clear hyes hall;generalize L[k]=y at*;obtain⟨yk,ya,yb⟩:=y;dsimp only at d0 d1 d2;have e0:=Blk.n0 k0;have e1:=Blk.n1 k0;have e2:=Blk.n2 k0;by_cases heq:(⟨yk,ya,yb⟩:Cho)=⟨xk,xa,xb⟩
   ·obtain rfl:=hy.out heq;cases heq;clear gF hy hno;go_upto_region 4 with fail;go_region;go_wp2;go_ret;exact⟨rfl,aX hB⟩
   ·have QF:=hide (gF.out heq);have kd:=k0.drew;have hBd:=aX hB;have hw:(yk=xk)=False∨((yk=xk)∧(ya=xa)=False)∨((yk=xk)∧(ya=xa)∧(yb=xb)=False):=by
     by_cases g1:yk=xk
     ·by_cases g2:ya=xa
      ·by_cases g3:yb=xb
       ·exact absurd (by rw[g1,g2,g3]) heq
       ·exact .inr (.inr ⟨g1,g2,eq_false g3⟩)
      ·exact .inr (.inl ⟨g1,eq_false g2⟩)
     ·exact .inl (eq_false g1)
    clear gF hy hno heq;rcases hw with g1|⟨rfl,g2⟩|⟨rfl,rfl,g3⟩;all_goals
     go_upto_region 4 with fail;go_region;go_wp2;go_roundw;case rel=>exact⟨kd,hBd,k+1,by omega,by go_num,QF⟩
     case measure=>simp[intOf];omega
  ·obtain rfl:k=L.length:=(by omega);obtain rfl:=hno.out (fun j hj=>hall.out j hj hj);clear hall hyes hno;go_wp2;go_ret;exact⟨rfl,hB⟩
theorem F7{H:List Txn}{n:Nat}{x:It}(h:jh H n x=true):x.b= -1∨0≤x.b:=by
 unfold jh at h;rw[Bool.or_eq_true,Bool.and_eq_true,Bool.and_eq_true,Bool.and_eq_true]at h;rcases h with h|h
 ·exact .inl (by simpa using h)
 ·exact .inr (of_decide_eq_true h.1.1.1)
theorem JO{H:List Txn}{l:List Cho}{y:Nat}{r:It}(h:r.b= -1∨0≤r.b):jN H l y r=((aL H y).writes.contains r.a&&((r.b== -1)||(l.contains (⟨r.a,r.b,(y:Int)⟩:Cho)&&(r.b !=(y:Int))))):=by
 unfold jN;have e1:decide (r.b<0)=(r.b== -1):=(by rw[Bool.eq_iff_iff];simp only[decide_eq_true_eq,beq_iff_eq];omega);have e2:(l.any fun c=>decide (c=(⟨r.a,r.b,(y:Int)⟩:Cho)))=l.contains (⟨r.a,r.b,(y:Int)⟩:Cho):=by
  rw[Bool.eq_iff_iff,List.contains_iff_mem,List.any_eq_true];constructor
  ·rintro⟨c,hc,e⟩;rw[←of_decide_eq_true e];exact hc
  ·intro g;exact⟨_,g,by simp⟩
 have e3:decide (r.b≠(y:Int))=(r.b !=(y:Int)):=(by rw[Bool.eq_iff_iff];simp);rw[e1,e2,e3,Bool.and_comm (r.b !=(y:Int))]
set_option maxRecDepth 100000 in
theorem DT(A:Option Addr)(c:Nat)(H:List Txn)(Al:Option Addr)(cl:Nat)(l:List Cho)(x y:Int)(w:World)(h:aF w (Old w) (.slice A H.length c) H)(hn:aB H)(hl:bq w (Old w) (.slice Al l.length cl) l)(hln:l.length≤1000000):
 Calls Tryz.prog 262 #[.agg #[.slice A H.length c],.slice Al l.length cl,.int .i64 x,.int .i64 y] w fun e w'=>e= .returned (.bool (eX H l x y))∧Below w.heap.size w w':=by
 obtain⟨W0,hW0⟩:∃W0,w.alloc (.cells #[.slice A H.length c] 24)=W0:=⟨_,rfl⟩;have hB:=ah (Below.refl w.heap.size w) hW0 (Nat.le_refl _);have k0:=Blk.newEq hW0;have hh:=hide (fun W hb=>h.below (w':=W) hb);have hhl:=hide (fun W hb=>hl.below (w':=W) hb);have htw:=hide (yD A c H x y W0 (h.below hB) hn);have c0:=Blk.n0 k0;obtain⟨q,hq⟩:∃q,eX H l x y=q:=⟨_,rfl⟩;rw[hq];unfold eX at hq;obtain⟨t,htt⟩:∃t,nP H x y=t:=⟨_,rfl⟩;rw[htt]at htw hq;replace hq:=hide hq;replace htt:=hide htt;replace hn:=hide hn;clear h hl;go_enter Tryz.func262,Tryz.ntmps262;go_wp2_with fail;clear hW0;refine htw.out.mono ?_;rintro e w1 ⟨rfl,hb1⟩;have hB1:=hB.trans (hb1.mono hB.size);replace k0:=k0.below hb1 k0.lt;have c0:=Blk.n0 k0;clear htw hb1 hB;cases t with
 |false=>
  obtain rfl:q=false:=hq.out.symm;clear hq htt;go_wp2;go_ret;exact⟨rfl,hB1⟩
 |true=>
  obtain⟨hr,a,b,rfl,rfl,ha,hb⟩:=oJ.1 htt.out;have ha0:(0:Int)≤(a:Int):=Int.natCast_nonneg _;have hb0:(0:Int)≤(b:Int):=Int.natCast_nonneg _;have ha1:(a:Int)<(H.length:Int):=(by omega);have hb1:(b:Int)<(H.length:Int):=(by omega);by_cases hab:a=b
  ·subst hab;obtain rfl:q=false:=(by rw[←hq.out];unfold oI;simp);clear hq htt;go_wp2;go_ret;exact⟨rfl,hB1⟩
  ·have hqq:Hid (H[a].reads.any (jN H l b)=q):=hide (by
    rw[←hq.out];unfold oI;rw[show(a:Int).toNat=a by omega,show(b:Int).toNat=b by omega,decide_eq_true (show a≠b from hab),aO ha];simp)
   have hne:((a:Int)==(b:Int))=false:=(by rw[beq_eq_false_iff_ne];omega);have Pm:=hide (fun r hr2=>by
    have:=(((aA H).1 hr).2 a ha).there r hr2;exact F7 this:∀r∈H[a].reads,r.b= -1∨0≤r.b)
   have hrl:H[a].reads.length≤1000000:=(hn.out.2 _ (List.getElem_mem ha)).2;have hwl:H[b].writes.length≤maxLen:=(by have:=(hn.out.2 _ (List.getElem_mem hb)).1;unfold maxLen;omega);clear hq htt hr hab;go_upto_region 5 with fail;go_loopw [10] (fun s10 wr=>∃i:Nat,i≤H[a].reads.length∧s10= .int .i64 i∧Hid (∀j (hj:j<H[a].reads.length),j<i→jN H l b H[a].reads[j]=false)∧Below w.heap.size w wr∧Blk wr w.heap.size 24 #[.slice A H.length c]) (fun s10 _=>H[a].reads.length-(intOf s10).toNat);case atStart=>exact⟨0,Nat.zero_le _,by go_num,hide (fun j hj h=>absurd h (by omega)),hB1,k0⟩
   case round=>
    clear hB1 k0 c0;obtain⟨i,hi,rfl,hall,hB2,k0⟩:=hrel;obtain⟨Wr,rfl⟩:∃Wr,Wr=wr:=⟨_,rfl⟩;have hi0:(0:Int)≤(i:Int):=Int.natCast_nonneg _;have c0:=Blk.n0 k0;obtain⟨bt,off,Aw,cw,Ar,cr,rfl,hbK,e0,e1,e2,-,hrs⟩:=aF.at_ (hh.out Wr hB2) ha;by_cases hlt:i<H[a].reads.length
    ·have hi1:(i:Int)<(H[a].reads.length:Int):=(by omega);obtain⟨b3,Nh,rfl,-,r0,r1⟩:=ItS.at_ hrs hlt;have hov:=hide (JO (H:=H) (l:=l) (y:=b) (Pm.out _ (List.getElem_mem hlt)));have hst:Hid (jN H l b H[a].reads[i]=false→∀j (hj:j<H[a].reads.length),j<i+1→jN H l b H[a].reads[j]=false):=hide (fun g j hj hji=>by
      rcases Nat.lt_or_ge j i with g2|g2
      ·exact hall.out j hj g2
      ·obtain rfl:j=i:=(by omega);exact g)
     have hyes:Hid (jN H l b H[a].reads[i]=true→q=true):=hide (fun g=>by
      have:H[a].reads.any (jN H l b)=true:=List.any_eq_true.2 ⟨_,List.getElem_mem hlt,g⟩;exact hqq.out.symm.trans this)
     rw[aO hb]at hov;clear hall hrs;generalize H[a].reads[i]=it at*;obtain⟨ik,ib⟩:=it;dsimp only at r0 r1 hov hst hyes;obtain⟨W2,hW2⟩:∃W2,Wr.alloc (.cells #[.int .i64 ik,.int .i64 ib] 106)=W2:=⟨_,rfl⟩;have kX:=Blk.newEq hW2;have hB3:=ah hB2 hW2 hB2.size;replace k0:=k0.alloc (.cells #[.int .i64 ik,.int .i64 ib] 106);rw[hW2]at k0;have x0:=Blk.n0 kX;have x1:=Blk.n1 kX;go_upto_region 8 with fail;try rw[hW2]
     clear c0 e0 e1 e2 r0 r1 hbK hW2;have c0:=Blk.n0 k0;obtain⟨bt2,off2,Bw,cw',Br,cr',he,hbK,e0,e1,e2,hws,-⟩:=aF.at_ (hh.out W2 hB3) hb;simp only[Option.some.injEq,Addr.mk.injEq,and_true]at he;obtain⟨rfl,rfl⟩:=he;obtain⟨p,hp⟩:∃p,H[b].writes.contains ik=p:=⟨_,rfl⟩;rw[hp]at hov;refine aY [0,1,2,3,4,5,6] [7,8] (by kernel_rfl) (by kernel_rfl) (fun _ _ d _ _ h=>by cases d<;>exact h) ?_;simp only[List.filterMap_cons,List.filterMap_nil,gZ,gS];repeat still_step
     refine wpStill_nil ?_;go_wp2_with fail;refine(eF H[b].bL Bw cw' H[b].writes (.slice Br H[b].reads.length cr') ik (Old W2) _ (aI.keep hws (Agree.drewN _ _ _) (fun b h=>h)) (fun b h=>h) hwl).mono ?_;rintro e W5 ⟨rfl,ni⟩;rw[hp];have hb5:Below W2.heap.size W2 W5:=⟨ni.os,ni.tape,ni.output,ni.size,ni.block⟩;have hB5:=hB3.trans (hb5.mono hB3.size);replace k0:=k0.below hb5 k0.lt;replace kX:=kX.below hb5 kX.lt;have x0:=Blk.n0 kX;have x1:=Blk.n1 kX;have hin:=hide (pY Al cl l ⟨ik,ib,(b:Int)⟩ W5 (hhl.out W5 hB5) hln);obtain⟨u,hu⟩:∃u,l.contains (⟨ik,ib,(b:Int)⟩:Cho)=u:=⟨_,rfl⟩;rw[hu]at hov hin;dsimp only at hin;clear hp hu ni hb5 c0 e0 e1 e2 hws hbK;go_upto_region 9 with fail;go_wp2_with fail;refine hin.out.mono ?_;rintro e W6 ⟨rfl,hb6⟩;have hB6:=hB5.trans (hb6.mono hB5.size);replace k0:=k0.below hb6 k0.lt;replace kX:=kX.below hb6 kX.lt;have x1:=Blk.n1 kX;clear hin hb6 x0;obtain⟨v1,hv1⟩:∃v1,(ib== -1)=v1:=⟨_,rfl⟩;obtain⟨v2,hv2⟩:∃v2,(ib !=(b:Int))=v2:=⟨_,rfl⟩;rw[hv1,hv2]at hov;obtain⟨z,hz⟩:∃z,(p&&(v1||(u&&v2)))=z:=⟨_,rfl⟩;rw[hov.out,hz]at hst hyes;clear hov;go_upto_region 10 with fail;go_cut [75] (fun s75 wz=>s75= .bool z∧wz=W6);case first=>
      cases p<;>cases v1<;>cases u<;>cases v2<;>(obtain rfl:=hz;go_wp2;go_meet;exact⟨rfl,rfl⟩)
     case rest=>
      obtain⟨rfl,rfl⟩:=hcut;cases z with
      |true=>
       obtain rfl:=hyes.out rfl;go_wp2;go_ret;exact⟨rfl,hB6⟩
      |false=>
       have gF:=hide (hst.out rfl);go_wp2;go_roundw;case rel=>exact⟨i+1,by omega,by go_num,gF,hB6,k0⟩
       case measure=>simp[intOf]<;>omega
    ·obtain rfl:i=H[a].reads.length:=(by omega);obtain rfl:q=false:=by
      rw[←hqq.out,List.any_eq_false];intro r hr;obtain⟨j,hj,rfl⟩:=List.getElem_of_mem hr;rw[hall.out j hj hj];exact Bool.false_ne_true
     clear hqq hall hrs;go_wp2;go_ret;exact⟨rfl,hB2⟩
set_option maxHeartbeats 8000000
theorem Pn{H:List Txn}{l:List Cho}{x y:Int}:isB H 1 l x y=(aK H l x y||(List.range H.length).any fun m=>aK H l x (m:Int)&&eX H l (m:Int) y):=by
 show((List.range H.length).any fun m=>aK H l x (m:Int)&&(decide ((m:Int)=y)||eX H l (m:Int) y))=_;rw[Bool.eq_iff_iff,Bool.or_eq_true,List.any_eq_true,List.any_eq_true];constructor
 ·rintro⟨m,hm,g⟩;rw[Bool.and_eq_true,Bool.or_eq_true,decide_eq_true_eq]at g;rcases g.2 with e|e
  ·exact .inl (e▸g.1)
  ·exact .inr ⟨m,hm,by rw[g.1,e];rfl⟩
 ·rintro(g|⟨m,hm,g⟩)
  ·have ht:nP H x y=true:=by
    unfold aK at g;rw[Bool.and_eq_true]at g;exact g.1
   obtain⟨-,a,b,rfl,rfl,-,hb⟩:=oJ.1 ht;exact⟨b,List.mem_range.2 hb,by rw[g];simp⟩
  ·rw[Bool.and_eq_true]at g;exact⟨m,hm,by rw[g.1,g.2];simp⟩
set_option maxRecDepth 100000 in
theorem JQ(A:Option Addr)(c:Nat)(H:List Txn)(level:Int)(Al:Option Addr)(cl:Nat)(l:List Cho)(x y:Int)(w:World)(h:aF w (Old w) (.slice A H.length c) H)(hn:aB H)(hl:bq w (Old w) (.slice Al l.length cl) l)(hln:l.length≤1000000):
 Calls Tryz.prog 232 #[.agg #[.slice A H.length c],.int .i64 level,.slice Al l.length cl,.int .i64 x,.int .i64 y] w fun e w'=>e= .returned (.bool (isB H level l x y))∧Below w.heap.size w w':=by
 obtain⟨W0,hW0⟩:∃W0,w.alloc (.cells #[.slice A H.length c] 24)=W0:=⟨_,rfl⟩;have hB:=ah (Below.refl w.heap.size w) hW0 (Nat.le_refl _);have k0:=Blk.newEq hW0;have hdi:=hide (fun(a b:Int) W (hb:Below w.heap.size w W)=>qE A c H Al cl l a b W (h.below hb) hn (hl.below hb) (by omega));have han:=hide (fun(a b:Int) W (hb:Below w.heap.size w W)=>DT A c H Al cl l a b W (h.below hb) hn (hl.below hb) hln);have hH:=hn.1;have c0:=Blk.n0 k0;clear h hl;by_cases h0:level=0
 ·subst h0;have hre:Hid (isB H 0 l x y=(aK H l x y||eX H l x y)):=hide rfl;rw[hre.out];have hd1:=hide (hdi.out x y W0 hB);have ha1:=hide (fun W (hb:Below W0.heap.size W0 W)=>han.out x y W (hB.trans (hb.mono hB.size)));generalize aK H l x y=q1 at*;generalize eX H l x y=q2 at*;clear hre hdi han;go_enter Tryz.func232,Tryz.ntmps232;go_wp2_with fail;refine hd1.out.mono ?_;rintro e w1 ⟨rfl,hb1⟩;have hb2:=hB.trans (hb1.mono hB.size);have ha2:=hide (ha1.out w1 hb1);have k1:=k0.below hb1 k0.lt;have c1:=Blk.n0 k1;clear hW0 c0 hd1 ha1;cases q1 with
  |true=>
   clear ha2;go_wp2;go_ret;exact⟨rfl,hb2⟩
  |false=>
   go_wp2_with fail;refine ha2.out.mono ?_;rintro e w2 ⟨rfl,hb3⟩;go_wp2;go_ret;exact⟨rfl,hb2.trans (hb3.mono hb2.size)⟩
 ·have g0:(level==0)=false:=(by simpa using h0);have g0n:(level !=0)=true:=(by simpa using h0);by_cases h1:level=1
  ·subst h1;have hre:Hid (isB H 1 l x y=(aK H l x y||(List.range H.length).any fun m=>aK H l x (m:Int)&&eX H l (m:Int) y)):=hide Pn;obtain⟨r,hr⟩:∃r,isB H 1 l x y=r:=⟨_,rfl⟩;rw[hr];rw[hr]at hre;clear hr h0;have hd0:=hide (hdi.out x y W0 hB);generalize aK H l x y=q0 at hre hd0;go_enter Tryz.func232,Tryz.ntmps232;go_wp2_with fail;refine hd0.out.mono ?_;rintro e w1 ⟨rfl,hb1⟩;have hB1:=hB.trans (hb1.mono hB.size);replace k0:=k0.below hb1 k0.lt;clear hW0 c0 hb1 hB hd0;cases q0 with
   |true=>
    obtain rfl:r=true:=(by rw[hre.out];rfl);clear hre;go_wp2;go_ret;exact⟨rfl,hB1⟩
   |false=>
    rw[Bool.false_or]at hre;have hyes:Hid (∀m,m<H.length→(aK H l x (m:Int)&&eX H l (m:Int) y)=true→r=true):=hide (fun m hm g=>by rw[hre.out,List.any_eq_true];exact⟨m,List.mem_range.2 hm,g⟩);have hno:Hid ((∀m,m<H.length→(aK H l x (m:Int)&&eX H l (m:Int) y)=false)→r=false):=hide (fun g=>by rw[hre.out,List.any_eq_false];intro m hm;rw[g m (List.mem_range.1 hm)];decide);clear hre;go_upto_region 10 with fail;go_loopw [13] (fun s32 wr=>∃m:Nat,m≤H.length∧s32= .int .i64 m∧Hid (∀m',m'<m→(aK H l x (m':Int)&&eX H l (m':Int) y)=false)∧Below w.heap.size w wr∧Blk wr w.heap.size 24 #[.slice A H.length c]) (fun s32 _=>H.length-(intOf s32).toNat);case atStart=>exact⟨0,Nat.zero_le _,by go_num,hide (fun m hm=>absurd hm (by omega)),hB1,k0⟩
    case round=>
     clear k0 hB1;obtain⟨m,hm,rfl,hall,hb,k0⟩:=hrel;have hm0:(0:Int)≤(m:Int):=Int.natCast_nonneg _;have c0:=Blk.n0 k0;by_cases hlt:m<H.length
     ·have hm1:(m:Int)<(H.length:Int):=(by omega);have hd1:=hide (hdi.out x (m:Int) wr hb);have ha1:=hide (fun W (hb2:Below wr.heap.size wr W)=>han.out (m:Int) y W (hb.trans (hb2.mono hb.size)));have hy:=hide (hyes.out m hlt);have hnx:=hide (fun(g:(aK H l x (m:Int)&&eX H l (m:Int) y)=false)=>(fun m' (hm':m'<m+1)=>(by
       by_cases e:m'=m
       ·subst e;exact g
       ·exact hall.out m' (by omega):(aK H l x (m':Int)&&eX H l (m':Int) y)=false)))
      generalize aK H l x (m:Int)=q1 at*;generalize eX H l (m:Int) y=q2 at*;go_wp2_with fail;refine hd1.out.mono ?_;rintro e w1 ⟨rfl,hb1⟩;have hb2:=hb.trans (hb1.mono hb.size);have ha2:=hide (ha1.out w1 hb1);have k1:=k0.below hb1 k0.lt;have c1:=Blk.n0 k1;clear c0 hd1 ha1 k0;cases q1 with
      |false=>
       have hn2:=hide (hnx.out rfl);clear ha2 hnx hy;go_wp2;go_roundw;case rel=>exact⟨m+1,by omega,by go_num,hn2,hb2,k1⟩
       case measure=>simp[intOf];omega
      |true=>
       go_wp2_with fail;refine ha2.out.mono ?_;rintro e w2 ⟨rfl,hb3⟩;have hb4:=hb2.trans (hb3.mono hb2.size);have k2:=k1.below hb3 k1.lt;clear ha2 c1;cases q2 with
       |true=>
        have hr:=hy.out rfl;subst hr;clear hnx hy hno hyes;go_wp2;go_ret;exact⟨rfl,hb4⟩
       |false=>
        have hn2:=hide (hnx.out rfl);clear hnx hy;go_wp2;go_roundw;case rel=>exact⟨m+1,by omega,by go_num,hn2,hb4,k2⟩
        case measure=>simp[intOf];omega
     ·have hr:=hno.out (fun m' hm'=>hall.out m' (by omega));subst hr;clear hyes hall;go_wp2;go_ret;exact⟨rfl,hb⟩
  ·have g1:(level !=1)=true:=(by simpa using h1);have hre:isB H level l x y=false:=(by unfold isB;rw[if_neg h0,if_neg h1]);rw[hre];clear hre h0 h1;go_enter Tryz.func232,Tryz.ntmps232;go_wp2;go_ret;exact⟨rfl,hB⟩
theorem pz{w:World}{n:Nat}:Below w.heap.size w (w.drewN n):=⟨rfl,rfl,rfl,Nat.le_refl _,fun _ _=>rfl⟩
set_option maxRecDepth 100000 in
theorem DU(A:Option Addr)(c:Nat)(H:List Txn)(level:Int)(Al:Option Addr)(cl:Nat)(l:List Cho)(Ar:Option Addr)(cr:Nat)(row:List Int)(w:World)(h:aF w (Old w) (.slice A H.length c) H)(hn:aB H)(hl:bq w (Old w) (.slice Al l.length cl) l)(hln:l.length≤1000000)(hr:aI w (Old w) (.slice Ar row.length cr) row)(hrn:row.length≤1000000):
 Calls Tryz.prog 188 #[.agg #[.slice A H.length c],.int .i64 level,.slice Al l.length cl,.slice Ar row.length cr] w fun e w'=>e= .returned (.bool (kD H level l row))∧Below w.heap.size w w':=by
 obtain⟨W0,hW0⟩:∃W0,w.alloc (.cells #[.slice A H.length c] 24)=W0:=⟨_,rfl⟩;have hB:=ah (Below.refl w.heap.size w) hW0 (Nat.le_refl _);have k0:=Blk.newEq hW0;have his:=hide (fun(a b:Int) W (hb:Below w.heap.size w W)=>JQ A c H level Al cl l a b W (h.below hb) hn (hl.below hb) hln);have hrw:=hide (fun W (hb:Below w.heap.size w W)=>hr.below hb);have hno:=hide (fun i (hi:i<row.length)=>Gp (H:=H) (level:=level) (l:=l) hi);have hyes:=hide (Cj (H:=H) (level:=level) (l:=l) (row:=row));generalize kD H level l row=r at*;clear h hl hr;go_enter Tryz.func188,Tryz.ntmps188;go_wp2_with fail;clear hW0;go_loopw [9] (fun s13 wr=>∃i:Nat,i≤row.length∧s13= .int .i64 i∧Hid (∀j,j<i→lN H level l row j=true)∧Below w.heap.size w wr∧Blk wr w.heap.size 24 #[.slice A H.length c]) (fun s13 _=>row.length-(intOf s13).toNat);case atStart=>exact⟨0,Nat.zero_le _,by go_num,hide (fun j hj=>absurd hj (by omega)),hB,k0⟩
 case round=>
  clear k0 hB;obtain⟨Wo,rfl⟩:∃Wo,Wo=wr:=⟨_,rfl⟩;obtain⟨i,hi,rfl,hall,hb,k0⟩:=hrel;have hi0:(0:Int)≤(i:Int):=Int.natCast_nonneg _;by_cases hlt:i<row.length
  ·have hi1:(i:Int)<(row.length:Int):=(by omega);have hnx:=hide (fun(g:lN H level l row i=true)=>(fun j (hj:j<i+1)=>(by
    by_cases e:j=i
    ·subst e;exact g
    ·exact hall.out j (by omega):lN H level l row j=true)))
   have hn2:=hide (hno.out i hlt);have hj:(i+1)%row.length<row.length:=Nat.mod_lt _ (by omega);have hrA:Hid (lN H level l row i=(!(row.take i).contains row[i]&&isB H level l row[i] row[(i+1)%row.length])):=hide (by
    unfold lN;rw[List.getD_eq_getElem?_getD,List.getElem?_eq_getElem hlt,Option.getD_some,List.getD_eq_getElem?_getD,List.getElem?_eq_getElem hj,Option.getD_some])
   have zY:Hid (∀k,(hk:k<i)→row[k]=row[i]→(row.take i).contains row[i]=true):=hide (fun k hk e=>by
    rw[List.contains_iff_mem,←e];exact List.mem_iff_getElem.2 ⟨k,by rw[List.length_take];omega,by rw[List.getElem_take]⟩)
   have qh:Hid ((∀k,(hk:k<i)→row[k]≠row[i])→(row.take i).contains row[i]=false):=hide (fun g=>by
    rw[←Bool.not_eq_true,List.contains_iff_mem];intro hm;obtain⟨k,hk,e⟩:=List.mem_iff_getElem.1 hm;rw[List.length_take]at hk;rw[List.getElem_take]at e;exact g k (by omega) e)
   go_upto_region 5 with fail;go_loopw [10] (fun s10 wq=>∃k:Nat,k≤i∧s10= .int .i64 k∧Hid (∀j,(hj:j<k)→(hk:k≤i)→row[j]≠row[i])∧Below w.heap.size w wq∧Blk wq w.heap.size 24 #[.slice A H.length c]) (fun s10 _=>i-(intOf s10).toNat);case atStart=>exact⟨0,Nat.zero_le _,by go_num,hide (fun j hj=>absurd hj (by omega)),hb,k0⟩
   case round=>
    clear k0 hb;obtain⟨Wi,rfl⟩:∃Wi,Wi=wr:=⟨_,rfl⟩;obtain⟨k,hk,rfl,gF,hb,k0⟩:=hrel;have hk0:(0:Int)≤(k:Int):=Int.natCast_nonneg _;have hI:=hrw.out Wi hb;by_cases hki:k<i
    ·have hk1:(k:Int)<(i:Int):=(by omega);have hk2:(k:Int)<(row.length:Int):=(by omega);have hk3:k<row.length:=(by omega);obtain⟨br,orr,rfl,-,x0⟩:=hI.at_ hlt;have y0:=(hI.cells hk3).2;by_cases he:row[k]=row[i]
     ·have hr2:=hn2.out (by rw[hrA.out,zY.out k hki he];rfl);subst hr2;have heb:(row[k]==row[i])=true:=(by simpa using he);clear hn2 hrA hnx hyes hno zY qh hall gF he hI;go_wp2;go_quiet (fail);go_wp2;go_ret;exact⟨rfl,hb.trans (pz.mono hb.size)⟩
     ·have hnn:Hid (∀j,(hj:j<k+1)→(hk:k+1≤i)→row[j]≠row[i]):=hide (fun j hj hkk=>by
       rcases Nat.lt_or_ge j k with g|g
       ·exact gF.out j g (by omega)
       ·obtain rfl:j=k:=(by omega);exact he)
      have heb:(row[k]==row[i])=false:=(by simpa using he);clear gF he hI;go_wp2;go_quiet (fail);go_wp2;go_roundw;case rel=>exact⟨k+1,by omega,by go_num,hnn,hb.trans (pz.mono hb.size),k0.below pz k0.lt⟩
      case measure=>simp[intOf];omega
    ·obtain rfl:k=i:=(by omega);have hct:=qh.out (fun j hj=>gF.out j hj (Nat.le_refl _));rw[hct]at hrA;obtain⟨br,orr,rfl,-,x0⟩:=hI.at_ hlt;have hxi:Hid (∀W,Below Wi.heap.size Wi W→W.cell? ⟨br,orr+k,none⟩=some (.int .i64 row[k])):=hide (fun W hbW=>((hI.below hbW).cells hlt).2);have hxj:Hid (∀W,Below Wi.heap.size Wi W→W.cell? ⟨br,orr+(k+1)%row.length,none⟩=some (.int .i64 row[(k+1)%row.length])):=hide (fun W hbW=>((hI.below hbW).cells hj).2);have hii:=hide (fun W (hbW:Below Wi.heap.size Wi W)=>his.out row[k] row[(k+1)%row.length] W (hb.trans (hbW.mono hb.size)));have hch:Hid (∀W,Below Wi.heap.size Wi W→W.cell? ⟨w.heap.size,0,none⟩=some (.slice A H.length c)):=hide (fun W hbW=>by have:=(k0.below hbW k0.lt).cell 0;simpa using this);clear zY qh hct gF hI x0;generalize isB H level l row[k] row[(k+1)%row.length]=q2 at*;generalize row[(k+1)%row.length]=xj at*;generalize row[k]=xi at*;have hm:Hid (((k:Int)+1).tmod (row.length:Int)=(((k+1)%row.length:Nat):Int)):=hide (by rw[show(k:Int)+1=((k+1:Nat):Int) by omega];rfl);generalize hmm:(k+1)%row.length=mi at*;replace hmm:=hide hmm;have hmi:(mi:Int)<(row.length:Int):=(by omega);have QX:(0:Int)≤(mi:Int):=Int.natCast_nonneg _;have hz0:((row.length:Int)==0)=false:=(by rw[beq_eq_false_iff_ne];omega);have hz1:(row.length==0)=false:=(by rw[beq_eq_false_iff_ne];omega);have hnil:Hid (row≠[]):=hide (fun e=>by rw[e]at hlt;simp at hlt);go_upto_region 9 with fail;refine dU (fun W=>Below Wi.heap.size Wi W) (by kernel_rfl) (by kernel_rfl) (Below.refl _ _).drew ?_;refine⟨.agg #[.slice A H.length c],fun W hW=>(by have v0:=hch.out W hW;go_wp2),?_⟩;refine⟨.int .i64 level,fun W hW=>(by go_wp2),?_⟩;refine⟨.slice Al l.length cl,fun W hW=>(by go_wp2),?_⟩;refine⟨.slice (some ⟨br,orr,none⟩) row.length cr,fun W hW=>(by go_wp2),?_⟩;refine⟨.int .i64 (k:Int),fun W hW=>(by go_wp2),?_⟩;refine⟨.pointer (some ⟨br,orr+k,none⟩),fun W hW=>(by go_wp2),?_⟩;refine⟨.int .i64 xi,fun W hW=>(by have v0:=hxi.out W hW;go_wp2),?_⟩;refine⟨.slice (some ⟨br,orr,none⟩) row.length cr,fun W hW=>(by go_wp2),?_⟩;refine⟨.int .i64 (k:Int),fun W hW=>(by go_wp2),?_⟩;refine⟨.int .i64 ((k:Int)+1),fun W hW=>(by go_wp2),?_⟩;refine⟨.slice (some ⟨br,orr,none⟩) row.length cr,fun W hW=>(by go_wp2),?_⟩;refine⟨.int .i64 (row.length:Int),fun W hW=>(by go_wp2),?_⟩;refine⟨.int .i64 (mi:Int),fun W hW=>(by have hm2:=hm.out;go_wp2;try exact hnil.out (by assumption)),?_⟩;refine⟨.pointer (some ⟨br,orr+mi,none⟩),fun W hW=>(by go_wp2),?_⟩;refine⟨.int .i64 xj,fun W hW=>(by have v0:=hxj.out W hW;go_wp2),?_⟩;refine⟨.bool q2,fun W hW=>(by
      go_wp2_with fail;refine(hii.out W hW).mono ?_;rintro e w' ⟨rfl,hb'⟩;replace hW:=hW.trans (hb'.mono hW.size);go_wp2),?_⟩
     refine⟨.bool q2,fun W hW=>(by go_wp2),?_⟩;intro W5 hW5;simp only[Act.put,sA,sZ,sS];have hb5:=hb.trans (hW5.mono hb.size);have k5:=k0.below hW5 k0.lt;cases q2 with
     |true=>
      have hn3:=hide (hnx.out (by rw[hrA.out];rfl));clear hnx hn2 hrA;go_wp2;go_roundw;case rel=>exact⟨k+1,by omega,by go_num,hn3,hb5,k5⟩
      case measure=>simp[intOf];omega
     |false=>
      have hr2:=hn2.out (by rw[hrA.out];rfl);subst hr2;clear hn2 hrA hnx hyes hno;go_wp2;go_ret;exact⟨rfl,hb5⟩
  ·obtain rfl:i=row.length:=(by omega);have hr2:=hyes.out hall.out;obtain⟨q,hq⟩:∃q,decide (0<row.length)=q:=⟨_,rfl⟩;have hq2:decide ((row.length:Int)>0)=q:=(by rw[←hq];simp);rw[hq]at hr2;subst hr2;clear hyes hno hall;go_wp2;go_ret;exact⟨rfl,hb⟩
set_option maxHeartbeats 4000000
set_option maxRecDepth 100000 in
theorem gH(A:Option Addr)(c:Nat)(L:List Fct)(w:World)(h:bF w (Old w) (.slice A L.length c) L)(hn:L.length≤1000000):
 Calls Tryz.prog 60 #[.slice A L.length c] w (Kq w (ak L)):=by
 obtain⟨ic,hic,hi1,hi2,hi3⟩:=info_parts mP;have hst:=hide (fun k (hk:k<L.length)=>uy hk);have hall:=hide (show ak (L.take L.length)=ak L by rw[List.take_length]);replace h:=hide h;go_enter Tryz.func60,Tryz.ntmps60;go_wp2_with fail;go_loopw [3,4] (fun s3 s4 wr=>∃k:Nat,k≤L.length∧s4= .int .i64 k∧dw wr w.heap.size s3 (ak (L.take k))∧Below w.heap.size w wr) (fun _ s4 _=>L.length-(intOf s4).toNat);case atStart=>exact⟨0,Nat.zero_le _,by go_num,dw.nil _ _,Below.refl _ _⟩
 case round=>
  obtain⟨Wo,rfl⟩:∃Wo,Wo=wr:=⟨_,rfl⟩;obtain⟨k,hk,rfl,hown,hb⟩:=hrel;have hk1:(0:Int)≤(k:Int):=Int.natCast_nonneg _;by_cases hlt:k<L.length
  ·have hk2:(k:Int)<(L.length:Int):=(by omega);obtain⟨b,off,Ay,cy,rfl,-,d⟩:=(h.out.below hb).at_ hlt;obtain⟨d0,d1,d2,-,-,-,-,-⟩:=d;have hs:=hide (hst.out k hlt);have hl2:(ak (L.take k)).length≤1000000:=(by rw[bM,List.length_take];omega);generalize L[k]=f at*;obtain⟨⟨fk,fa,fb⟩,fd,fi,fj,fy⟩:=f;dsimp only at d0 d1 d2 hs;obtain⟨Av,cv,rfl⟩:=hown.form;generalize ak (L.take k)=M at*;have qN:=hb.size;have hown2:=hide hown;clear hown;go_wp2_with (at_builtin;refine aT (enc:=jJ) rfl (.tmp 11) (.tmp 17) 65 rfl w.heap.size 102 ic _ 3 24 Tryz.underlying65 hic hi1 hi2 hi3 rfl (by decide) (.slice Av M.length cv) M rfl hown2.out (fun _=>rfl) (⟨fk,fa,fb⟩:Cho) _ rfl rfl iG (by simp[maxLen];omega) (by omega) qN w w.heap.size (Nat.le_refl _) hb ?_;intro v1 w6 hown1 hg1 hb1 ji);go_wp2;go_roundw;case rel=>exact⟨k+1,by omega,by go_num,by rw[hs.out];exact hown1,hb1⟩
   case measure=>simp[intOf];omega
  ·obtain rfl:k=L.length:=(by omega);rw[hall.out]at hown;go_wp2;go_ret;exact⟨_,rfl,hown,hb⟩
end Go.Proofs.YtfhnamomiaekdaaGreatDoor
namespace Go.Inq
open Go Go.RowKit
structure bO(S:Nat→Prop)(w:World)(v:Value)(w':World)(v':Value):Prop where
 os:w'.os=w.os
 tape:w'.tape=w.tape
 output:w'.output=w.output
 size:w.heap.size≤w'.heap.size
 block:∀k,k<w.heap.size→v.ownBlock≠some k→¬S k→w'.heap[k]?=w.heap[k]?
 own:∀g,v'.ownBlock=some g→v.ownBlock=some g∨w.heap.size≤g
def NoS:Nat→Prop:=fun _=>False
theorem noS(b:Nat):¬NoS b:=id
section
variable{S:Nat→Prop}{w w1 w2:World}{v v1 v2:Value}
theorem bO.refl(S:Nat→Prop)(w:World)(v:Value):bO S w v w v:=⟨rfl,rfl,rfl,Nat.le_refl _,fun _ _ _ _=>rfl,fun _ h=> .inl h⟩
theorem bO.trans(h:bO S w v w1 v1)(h':bO S w1 v1 w2 v2):bO S w v w2 v2:=
 ⟨h'.os.trans h.os,h'.tape.trans h.tape,h'.output.trans h.output,Nat.le_trans h.size h'.size,fun k hk hv hS=>(h'.block k (Nat.lt_of_lt_of_le hk h.size) (fun e=>by rcases h.own k e with e|e;exact hv e;omega) hS).trans (h.block k hk hv hS),
  fun g hg=>by rcases h'.own g hg with e|e;exact h.own g e;exact .inr (Nat.le_trans h.size e)⟩
theorem bO.mono{S':Nat→Prop}(h:bO S w v w1 v1)(hS:∀b,S b→S' b):bO S' w v w1 v1:=⟨h.os,h.tape,h.output,h.size,fun k hk hv hn=>h.block k hk hv (fun g=>hn (hS k g)),h.own⟩
theorem bO.call{B:Nat}(h:bO S w v w1 v1)(hb:Below B w1 w2)(hB:w1.heap.size≤B):bO S w v w2 v1:=
 h.trans ⟨hb.os,hb.tape,hb.output,hb.size,fun k hk _ _=>hb.block k (by omega),fun g hg=> .inl hg⟩
theorem bO.alloc(h:bO S w v w1 v1)(o:Obj):bO S w v (w1.alloc o) v1:=h.call ((Below.refl _ _).alloc (Nat.le_refl _) o) (Nat.le_refl _)
theorem bO.drew(h:bO S w v w1 v1):bO S w v w1.drew v1:=⟨h.os,h.tape,h.output,h.size,h.block,h.own⟩
theorem bO.drewN(h:bO S w v w1 v1)(n:Nat):bO S w v (w1.drewN n) v1:=⟨h.os,h.tape,h.output,h.size,h.block,h.own⟩
theorem bO.aD(h:bO S w v w1 v1){p:Addr}(hp:v1.ownBlock=some p.block∨w.heap.size≤p.block∨S p.block)(u:Value):bO S w v (w1.setCell p u) v1:=
 ⟨h.os,h.tape,h.output,by simpa using h.size,fun k hk hv hS=>(Below.heap_setCell w1 p u k (fun e=>by
  subst e;rcases hp with e|e|e
  ·rcases h.own _ e with e|e
   ·exact hv e
   ·omega
  ·omega
  ·exact hS e)).trans (h.block k hk hv hS),h.own⟩
theorem bO.row(h:bO S w v w1 v1)(hg:w1.grownBy w2 v1.ownBlock)(hv:∀g,v2.ownBlock=some g→v1.ownBlock=some g∨w1.heap.size≤g):bO S w v w2 v2:=
 h.trans ⟨hg.os,hg.tape,hg.output,hg.size,fun k hk hv _=>hg.block k hk (fun e=>hv e.symm),hv⟩
theorem bO.agree{K:Nat→Prop}(h:bO S w v w1 v1)(hK:∀b,K b→b<w.heap.size∧v.ownBlock≠some b∧¬S b):Agree K w w1:=fun b hb=>h.block b (hK b hb).1 (hK b hb).2.1 (hK b hb).2.2
theorem bO.blk{g:Nat}{t:TypeId}{cs:Array Value}(h:bO S w v w1 v1)(hk:Blk w g t cs)(hv:v.ownBlock≠some g)(hS:¬S g):Blk w1 g t cs:=(h.block g hk.lt hv hS).trans hk
theorem bO.below{B:Nat}{w0:World}(h:bO S w v w1 v1)(hb:Below B w0 w)(hB:B≤w.heap.size)(hv:∀g,v.ownBlock=some g→B≤g)(hS:∀g,S g→B≤g):Below B w0 w1:=
 hb.trans ⟨h.os,h.tape,h.output,h.size,fun k hk=>h.block k (by omega) (fun e=>by have:=hv k e;omega) (fun e=>by have:=hS k e;omega)⟩
theorem bO.fD{B:Nat}{w0:World}(h:bO NoS w v w1 v1)(hb:Below B w0 w)(hB:B≤w.heap.size)(hv:∀g,v.ownBlock=some g→B≤g):Below B w0 w1:=h.below hb hB hv (fun g hg=>hg.elim)
theorem bO.other(h:bO S w v w1 v1){u:Value}{base:Nat}{e:TypeId}{size n:Nat}{xs:List Value}(hu:w.ownsRow base e size u n xs)(hv:∀g,u.ownBlock=some g→v.ownBlock≠some g∧¬S g):w1.ownsRow base e size u n xs:=by
 refine⟨hu.1,?_⟩;rcases hu.2 with h2|⟨g,cap,cur,h2,hg,hh,r⟩
 ·exact .inl h2
 ·refine .inr ⟨g,cap,cur,h2,hg,?_,r⟩;have hgl:g<w.heap.size:=by
   rcases Nat.lt_or_ge g w.heap.size with h|h
   ·exact h
   ·rw[Array.getElem?_eq_none h]at hh;cases hh
  have:=hv g (by rw[h2];rfl);rw[h.block g hgl this.1 this.2];exact hh
end
theorem BG {P:Program} {W:World} {ops:Array Oper} {rest:List Oper} {o:Oper} {a:Act} {Q:Exit→Act→World→Prop} {α:Type} {enc:α→List Value}
 (hgd:o.guard=none) (s x:Operand) (t:TypeId) (ho:o.op= .call {callee:= .builtin .append,args:=#[s,x],argTypes:=#[t,t]})
 (base:Nat) (e:TypeId) (i:TypeInfo) (z:Value) (size bytes:Nat) (ht:P.underlying t=some (.slice e)) (hi:P.info? e=some i) (hz:i.zero=some z)
 (hsize:i.size=size) (hby:i.bytes=bytes) (hzs:z.cells.size=size) (hsz:0<size)
 (v:Value) (l:List α) (hs:a.eval s=v) (hown:W.ownsRow base e size v l.length (l.map enc).flatten) (hen:∀x,(enc x).length=size)
 (x0:α) (cs:Array Value) (hcs:cs.toList=enc x0) (hx:a.eval x= .slice (some ⟨W.heap.size,0,none⟩) 1 1)
 (h1:∀x,∀u∈enc x,u.oneCell'=true) (h63:l.length+1≤maxLen) (hbytes:(l.length+1)*bytes≤140737488355328) (hbase:base≤W.heap.size)
 (h:∀v' w',w'.ownsRow base e size v' (l++[x0]).length ((l++[x0]).map enc).flatten→bO NoS W v w' v'→wpList P ops Q rest (a.put o.dst v') w'):
 wpList P ops Q (o::rest) a (W.alloc (.cells cs e)):=by
 refine aT (enc:=enc) hgd s x t ho base e i z size bytes ht hi hz hsize hby hzs hsz v l hs hown hen x0 cs hcs hx h1 h63 hbytes hbase W base (Nat.le_refl _) (Below.refl _ _) ?_;intro v' w' g1 g2 _ g4;refine h v' w' g1 (((bO.refl NoS W v).alloc _).row g2 ?_);intro g hg;rcases g4 with e|e
 ·exact .inl (e▸hg)
 ·rw[e]at hg;injection hg with hg
  subst hg;right;simp
end Go.Inq
