/- DkE DkF DkG -/
import Derived.Test.YtlbdklaggalgfaaGreatDoorG10
set_option linter.unusedSimpArgs false
set_option linter.unusedVariables false
set_option maxHeartbeats 4000000
namespace Go.Aq.Fy
open Go.Aq Go.RowKit
theorem beB_at (N wd j:Nat) (h:j<wd):(beB N wd)[j]'(by rw[beB_length];exact h)=UInt8.ofNat (N / 2^(8 * (wd - 1 - j))):=by
 simp[beB,leBy]
theorem sh0 {n wd:Nat} (hn:n<2^(8 * wd)):(n:Int) / 2^(8 * wd)=0:=by
 have:((n / 2^(8 * wd):Nat):Int)=0:=by rw[Nat.div_eq_of_lt hn];rfl
 simpa using this
end Go.Aq.Fy
namespace Go.Proofs.YtlbdklaggalgfaaGreatDoor
open Go.RowKit Go.Aq Go.Aq.Fy
theorem rbig_ok (w:World) (n wd:Nat) (h1:1≤wd) (h6:wd≤6) (hn:n<2^(8 * wd)):
  Calls Tryz.prog 174 #[.int .i64 n,.int .i64 wd] w fun e w'=>∃v,e=.returned (.tuple #[v,.int .i64 0])∧Fresh w w' 5 1 v wd (Bs (beB n wd)):=by
 have t1:decide ((wd:Int)<1)=false:=by simp;omega
 have t2:decide ((6:Int)<(wd:Int))=false:=by simp;omega
 have t3:decide ((n:Int)<0)=false:=by simp
 have hq:=sh0 hn;have HN:=zH hn;clear hn;go_enter Tryz.func174,Tryz.ntmps174
 go_wp2
 go_loopg [6,7] wd (fun gk (v6:Value) (v7:Value) wr=>∃j:Nat,v7=.int .i64 ((gk:Int) - 1)∧j+gk=wd∧Fresh w wr 5 1 v6 j (Bs ((beB n wd).take j)));case atStart=>exact⟨0,by go_num,by omega,Fresh.nil _ _ _⟩
 case round=>
  obtain⟨j,rfl,hjk,hf⟩:=hrel;obtain⟨G,rfl⟩:∃G,G=gk:=⟨_,rfl⟩;cases G with
  | zero=>
   obtain rfl:j=wd:=by omega
   have t4:decide (0≤((0:Nat):Int) - 1)=false:=by simp
   rw[List.take_of_length_le (by rw[beB_length];exact Nat.le_refl _)] at hf
   go_wp2
   go_ret2;exact⟨_,rfl,hf⟩
  | succ i=>
   have hz:((i+1:Nat):Int) - 1=(i:Int):=by omega
   rw[hz];have hts:=List.take_succ_eq_append_getElem (l:=beB n wd) (i:=j) (by rw[beB_length];omega);rw[beB_at _ _ _ (by omega),show wd - 1 - j=i by omega] at hts;have hev:(((UInt8.ofNat (n / 2^(8 * i))).toNat:Nat):Int)=(n:Int) / 2^(8 * i) % 256:=by
    rw[UInt8.toNat_ofNat'];simp
   have HTS:=zH hts;have HEV:=zH hev;have HK:=zH hjk;have hi6:i<6:=by omega
   clear hts hev hjk hz t1 t2 t3 hq;go_wp2_with (at_builtin;refine wpList_appF (w0:=w) rfl _ _ 38 rfl sl_u8y (by exact hf.to ((Chg.refl [] wr).alloc (.cells #[.int .u8 ((n:Int) / 2^(8 * i) % 256)] 5))) rfl (Sees.row (cs:=#[.int .u8 ((n:Int) / 2^(8 * i) % 256)]) (by exact Blk.new wr _ 5) (m:=1) rfl) rfl (by simp[Value.oneCell']) (by have:=HK.out;omega) (by have:=HK.out;omega) ?_;intro v5 w5 hF5 c5);go_roundg i;case measure=>omega
   case rel=>
    refine⟨j+1,by go_num,by have:=HK.out;omega,?_⟩;have e:Bs [UInt8.ofNat (n / 2^(8 * i))]=[.int .u8 ((n:Int) / 2^(8 * i) % 256)]:=by simp only[Bs,List.map_cons,List.map_nil,Bc,HEV.out]
    rw[HTS.out,Bs_append,e];exact hF5
theorem bigD (w:World) (n wd:Nat) (h1:1≤wd) (h6:wd≤6) (hn:n<2^(8 * wd)):
  Calls Tryz.prog 121 #[.int .i64 n,.int .i64 wd] w fun e w'=>∃g cap,e=.returned (.slice (some ⟨g,0,none⟩) wd cap)∧Fresh w w' 5 1 (.slice (some ⟨g,0,none⟩) wd cap) wd (Bs (beB n wd)):=by
 have hb:=rbig_ok w n wd h1 h6 hn;have H1:=zH h1;clear h1 h6 hn;go_enter Tryz.func121,Tryz.ntmps121;go_wp2_with fail;refine hb.mono ?_;rintro e w' ⟨v,rfl,hf⟩;obtain⟨g,cap,rfl,-⟩:=hf.own.pos H1.out;go_wp2_with fail;go_ret;exact⟨g,cap,rfl,hf⟩
theorem numD (w:World) (v:Value) (n at_ wd:Nat) (b:List UInt8) (hv:Sees w 1 v n (Bs b)) (h1:1≤wd) (h6:wd≤6) (ha:at_+wd≤n) (hn:n≤1000000000):
  Calls Tryz.prog 59 #[v,.int .i64 at_,.int .i64 wd] w fun e w'=>e=.returned (.int .i64 (beVal ((b.drop at_).take wd):Nat))∧w'=w:=by
 have hr:=rreadBig_ok w v n at_ wd b hv h1 h6 ha hn;obtain⟨ao,cap,rfl,-⟩:=hv.shape;clear hv h1 h6 ha hn;generalize beVal ((b.drop at_).take wd)=R at *;go_enter Tryz.func59,Tryz.ntmps59;go_wp2_with fail;refine hr.mono ?_;rintro e w1 ⟨rfl,rfl⟩;clear hr;go_wp2_with fail;go_ret;exact⟨rfl,rfl⟩
theorem filledD (w0 w:World) (g n cap:Nat) (b:List UInt8) (hf:FreshM w0 w 5 (.slice (some ⟨g,0,none⟩) n cap) n (Bs b)) (h1:n<256):
  Calls Tryz.prog 120 #[.slice (some ⟨g,0,none⟩) n cap] w fun e w'=>∃ao cap',e=.returned (.slice ao 256 cap')∧FreshM w0 w' 5 (.slice ao 256 cap') 256 (Bs (fill b)):=by
 have hbl:b.length=n:=by have:=hf.own.1;rw[Bs_length] at this;omega
 obtain⟨k,hk,hk0⟩:∃k,n+k=256∧0<k:=⟨256 - n,by omega,by omega⟩;have ew:wrap64 (256 - (n:Int))=(k:Int):=by rw[show 256 - (n:Int)=(k:Int) by omega];exact w64r (by omega)
 have ew':=wIqD ew;have ee:256 - (n:Int)=(k:Int):=by omega
 have HH:=zB hbl hk hk0;have HE:=zH ee;clear hbl hk hk0 h1 ee;go_enter Tryz.func120,Tryz.ntmps120;go_wp2_with (at_builtin;refine wpList_appMZ (k:=k) _ _ 38 sl_u8y rfl rfl 3 rfl rfl Tryz.underlying3 hf rfl rfl (by first | exact ew | exact ew' | exact HE.out | rfl) HH.out.2.2 (by have:=HH.out.2.1;omega) (by have:=HH.out.2.1;omega) ?_;intro v4 w4 hF4 c4);go_ret;have e1:Bs b++List.replicate k (Value.int .u8 0)=Bs (fill b):=by
  have:k=256 - b.length:=by have:=HH.out.1;have:=HH.out.2.1;omega
  rw[fill,Bs_append,this];simp[nul,Bs,Bc]
 rw[HH.out.2.1,e1] at hF4;obtain⟨a4,p4,rfl,-⟩:=hF4.shape;exact⟨a4,p4,rfl,hF4⟩
set_option maxRecDepth 100000 in
theorem headD (w:World) (ring seq pos:Nat) (hring:ring<2^(8 * 2)) (hseq:seq<2^(8 * 6)) (hpos:pos<2^(8 * 2)):
  Calls Tryz.prog 118 #[.int .i64 ring,.int .i64 seq,.int .i64 pos] w fun e w'=>∃ao cap,e=.returned (.slice ao 256 cap)∧FreshM w w' 5 (.slice ao 256 cap) 256 (Bs (headB ring seq pos)):=by
 have Hring:=fun w'=>bigD w' ring 2 (by decide) (by decide) hring
 have Hseq:=fun w'=>bigD w' seq 6 (by decide) (by decide) hseq
 have Hpos:=fun w'=>bigD w' pos 2 (by decide) (by decide) hpos
 clear hring hseq hpos;have hf0:FreshM w (w.alloc (.cells #[.int .u8 65,.int .u8 81] 5 (2,3))) 5 (.slice (some ⟨w.heap.size,0,none⟩) 2 2) 2 (Bs [65,81]):=FreshM.const w #[.int .u8 65,.int .u8 81] 5 (by decide);have kc:=fun (w:World) (C:Array Value) (n c:Nat)=>Lib.run_convert_bytes_const (P:=Tryz.prog) w 38 5 C n c Tryz.underlying38 Tryz.underlying5
 go_enter Tryz.func118,Tryz.ntmps118;go_wp2_with fail;refine (Hring _).mono ?_;rintro e wB0 ⟨a0,p0,rfl,hS0⟩;have hg0:=hf0.to hS0.chg;go_wp2_with (at_builtin;refine wpList_appM _ _ 38 sl_u8y rfl rfl rfl hg0 (by simp) rfl hS0.own.sees rfl (Bs_one _) (by decide) (by decide) ?_;intro v1 w1 hf1 hv1 c1;obtain⟨b1,q1,rfl,-,-⟩:=hf1.ptr hv1);refine (Hseq _).mono ?_;rintro e wB1 ⟨a1,p1,rfl,hS1⟩;have hg1:=hf1.to hS1.chg;go_wp2_with (at_builtin;refine wpList_appM _ _ 38 sl_u8y rfl rfl rfl hg1 (by simp) rfl hS1.own.sees rfl (Bs_one _) (by decide) (by decide) ?_;intro v2 w2 hf2 hv2 c2;obtain⟨b2,q2,rfl,-,-⟩:=hf2.ptr hv2);refine (Hpos _).mono ?_;rintro e wB2 ⟨a2,p2,rfl,hS2⟩;have hg2:=hf2.to hS2.chg;go_wp2_with (at_builtin;refine wpList_appM _ _ 38 sl_u8y rfl rfl rfl hg2 (by simp) rfl hS2.own.sees rfl (Bs_one _) (by decide) (by decide) ?_;intro v3 w3 hf3 hv3 c3;obtain⟨b3,q3,rfl,-,-⟩:=hf3.ptr hv3);have hz:FreshM w w3 5 (.slice (some ⟨b3,0,none⟩) 12 q3) 12 (Bs ([65,81]++beB ring 2++beB seq 6++beB pos 2)):=by simp only[Bs_append];exact hf3
 refine (filledD w _ _ 12 _ _ hz (by decide)).mono ?_;rintro e wD ⟨a,p,rfl,hD⟩;go_wp2_with fail;go_ret;exact⟨a,p,rfl,hD⟩
set_option maxRecDepth 100000 in
theorem markD (w:World) (seq pos n:Nat) (hseq:seq<2^(8 * 6)) (hpos:pos<2^(8 * 2)) (hn:n<2^(8 * 2)):
  Calls Tryz.prog 131 #[.int .i64 seq,.int .i64 pos,.int .i64 n] w fun e w'=>∃ao cap,e=.returned (.slice ao 256 cap)∧FreshM w w' 5 (.slice ao 256 cap) 256 (Bs (markB seq pos n)):=by
 have Hseq:=fun w'=>bigD w' seq 6 (by decide) (by decide) hseq
 have Hpos:=fun w'=>bigD w' pos 2 (by decide) (by decide) hpos
 have Hn:=fun w'=>bigD w' n 2 (by decide) (by decide) hn
 clear hseq hpos hn;have hf0:FreshM w (w.alloc (.cells #[.int .u8 65,.int .u8 67] 5 (2,3))) 5 (.slice (some ⟨w.heap.size,0,none⟩) 2 2) 2 (Bs [65,67]):=FreshM.const w #[.int .u8 65,.int .u8 67] 5 (by decide);have kc:=fun (w:World) (C:Array Value) (n c:Nat)=>Lib.run_convert_bytes_const (P:=Tryz.prog) w 38 5 C n c Tryz.underlying38 Tryz.underlying5
 go_enter Tryz.func131,Tryz.ntmps131;go_wp2_with fail;refine (Hseq _).mono ?_;rintro e wB0 ⟨a0,p0,rfl,hS0⟩;have hg0:=hf0.to hS0.chg;go_wp2_with (at_builtin;refine wpList_appM _ _ 38 sl_u8y rfl rfl rfl hg0 (by simp) rfl hS0.own.sees rfl (Bs_one _) (by decide) (by decide) ?_;intro v1 w1 hf1 hv1 c1;obtain⟨b1,q1,rfl,-,-⟩:=hf1.ptr hv1);refine (Hpos _).mono ?_;rintro e wB1 ⟨a1,p1,rfl,hS1⟩;have hg1:=hf1.to hS1.chg;go_wp2_with (at_builtin;refine wpList_appM _ _ 38 sl_u8y rfl rfl rfl hg1 (by simp) rfl hS1.own.sees rfl (Bs_one _) (by decide) (by decide) ?_;intro v2 w2 hf2 hv2 c2;obtain⟨b2,q2,rfl,-,-⟩:=hf2.ptr hv2);refine (Hn _).mono ?_;rintro e wB2 ⟨a2,p2,rfl,hS2⟩;have hg2:=hf2.to hS2.chg;go_wp2_with (at_builtin;refine wpList_appM _ _ 38 sl_u8y rfl rfl rfl hg2 (by simp) rfl hS2.own.sees rfl (Bs_one _) (by decide) (by decide) ?_;intro v3 w3 hf3 hv3 c3;obtain⟨b3,q3,rfl,-,-⟩:=hf3.ptr hv3);have hz:FreshM w w3 5 (.slice (some ⟨b3,0,none⟩) 12 q3) 12 (Bs ([65,67]++beB seq 6++beB pos 2++beB n 2)):=by simp only[Bs_append];exact hf3
 refine (filledD w _ _ 12 _ _ hz (by decide)).mono ?_;rintro e wD ⟨a,p,rfl,hD⟩;go_wp2_with fail;go_ret;exact⟨a,p,rfl,hD⟩
set_option maxRecDepth 100000 in
theorem topD (w:World) (mt:Nat) (hmt:mt<2^(8 * 2)):
  Calls Tryz.prog 54 #[.int .i64 mt] w fun e w'=>∃ao cap,e=.returned (.slice ao 256 cap)∧FreshM w w' 5 (.slice ao 256 cap) 256 (Bs (fill ([65,70]++beB mt 2))):=by
 have Hmt:=fun w'=>bigD w' mt 2 (by decide) (by decide) hmt
 clear hmt;have hf0:FreshM w (w.alloc (.cells #[.int .u8 65,.int .u8 70] 5 (2,3))) 5 (.slice (some ⟨w.heap.size,0,none⟩) 2 2) 2 (Bs [65,70]):=FreshM.const w #[.int .u8 65,.int .u8 70] 5 (by decide);have kc:=fun (w:World) (C:Array Value) (n c:Nat)=>Lib.run_convert_bytes_const (P:=Tryz.prog) w 38 5 C n c Tryz.underlying38 Tryz.underlying5
 go_enter Tryz.func54,Tryz.ntmps54;go_wp2_with fail;refine (Hmt _).mono ?_;rintro e wB0 ⟨a0,p0,rfl,hS0⟩;have hg0:=hf0.to hS0.chg;go_wp2_with (at_builtin;refine wpList_appM _ _ 38 sl_u8y rfl rfl rfl hg0 (by simp) rfl hS0.own.sees rfl (Bs_one _) (by decide) (by decide) ?_;intro v1 w1 hf1 hv1 c1;obtain⟨b1,q1,rfl,-,-⟩:=hf1.ptr hv1);have hz:FreshM w w1 5 (.slice (some ⟨b1,0,none⟩) 4 q1) 4 (Bs ([65,70]++beB mt 2)):=by simp only[Bs_append];exact hf1
 refine (filledD w _ _ 4 _ _ hz (by decide)).mono ?_;rintro e wD ⟨a,p,rfl,hD⟩;go_wp2_with fail;go_ret;exact⟨a,p,rfl,hD⟩
theorem needD (w:World) (n:Nat) (hn:n≤1000000):
  Calls Tryz.prog 69 #[.int .i64 n] w fun e w'=>e=.returned (.int .i64 (need n))∧w'=w:=by
 by_cases h:n<1
 ·have t:decide ((n:Int)<1)=true:=by simp;omega
  have e0:need n=0:=by unfold need;rw[if_pos h]
  rw[e0];go_enter Tryz.func69,Tryz.ntmps69;go_wp2_with fail;go_ret;exact⟨rfl,rfl⟩
 ·have t:decide ((n:Int)<1)=false:=by simp;omega
  obtain⟨R,hR⟩:∃R,need n=R:=⟨_,rfl⟩;rw[hR];have e4:((n:Int)+(n:Int) / 64+((n:Int) % 64+63) / 64)=(R:Int):=by unfold need at hR;rw[if_neg h] at hR;omega
  have HE:=zH e4;clear hR e4;go_enter Tryz.func69,Tryz.ntmps69;go_wp2_with fail;go_ret;refine⟨?_,rfl⟩;show Ending.returned (.int .i64 ((n:Int)+(n:Int) / 64+((n:Int) % 64+63) / 64))=_;rw[HE.out]
end Go.Proofs.YtlbdklaggalgfaaGreatDoor
namespace Go.Aq.Fy
open Go.Aq Go.RowKit
theorem _root_.Go.Aq.FreshM.dis {w wr:World} {e:TypeId} {v:Value} {n:Nat} {xs:List Value} (h:FreshM w wr e v n xs) {S:List Nat} (hS:In w S):Disj (eyes v) S:=fun k hk hs=>by
 have h1:=h.new k (eyes_own v k hk);have h2:=hS k hs;omega
theorem setS_same {f:Nat→Sec} {k:Nat} {b:Sec} (h:f k=b):setS f k b=f:=by
 funext j;unfold setS;split
 ·next e=>rw[e,h]
 ·rfl
theorem zeros256:List.replicate 256 (Value.int .u8 0)=Bs zsec:=by
 unfold zsec nul Bs;rw[List.map_replicate];exact congrArg (List.replicate 256) rfl
def fmt1:Nat→Sec:=setS (fun _=>zsec) 0 (headB 20 1 0)
def fmt2:Nat→Sec:=setS fmt1 22 (topB 4)
end Go.Aq.Fy
namespace Go.Proofs.YtlbdklaggalgfaaGreatDoor
open Go.RowKit Go.Aq Go.Aq.Fy
def DOk (w:World) (S:List Nat) (p:Nat) (now:Nat→Sec) (q:Nat) (e:Ending) (w':World):Prop:=
 e=.returned (.int .i64 0)∧∃S',DkR w' S' p 200 now q∧Upd S S' w w'
theorem dwrM (w0 w:World) (S:List Nat) (p:Nat) (now:Nat→Sec) (q:Nat) (h:DkR w S p 200 now q) (hq:q≤1000000) (k:Nat) (hk:k<200) (v:Value) (b:Sec) (hv:FreshM w0 w 5 v 256 (Bs b)) (h0:In w0 S):
  Calls Tryz.prog 53 #[.pointer (some ⟨p,0,none⟩),.int .i64 k,v] w (DOk w S p (setS now k b) (q+1)):=
 dwrite_ok w S p 200 now q h hq k hk (by decide) v b hv.sees (hv.dis h0)
theorem dfl (w:World) (S:List Nat) (p:Nat) (now:Nat→Sec) (q:Nat) (h:DkR w S p 200 now q) (hq:q≤1000000):
  Calls Tryz.prog 55 #[.pointer (some ⟨p,0,none⟩)] w (DOk w S p now q):=
 dflush_ok w S p 200 now q h hq (by decide)
theorem dfmtL_ok (w:World) (S:List Nat) (p q:Nat) (h:DkR w S p 200 (fun _=>zsec) q) (hq:q≤1000):
  Calls Tryz.prog 52 #[.pointer (some ⟨p,0,none⟩),.int .i64 20] w (DOk w S p fmt1 (q+2)):=by
 have HH:=zA h hq;have hIn:=h.lt;have HI:=zH hIn;have hsec:=dsectors_ok w S p 200 _ q h;have hhd:=fun w'=>headD w' 20 1 0 (by decide) (by decide) (by decide)
 clear h hq hIn;go_enter Tryz.func52,Tryz.ntmps52;go_wp2_with fail;refine hsec.mono ?_;rintro e w1 ⟨rfl,rfl⟩;clear hsec;go_wp2_with fail;refine (hhd _).mono ?_;rintro e w2 ⟨a2,c2,rfl,hH⟩;have h2:=HH.out.1.chg0 hH.chg;have H2:=zA h2 hH;clear hhd h2 hH;go_wp2_with fail;refine (dwrM _ w2 S p _ q H2.out.1 (by have:=HH.out.2;omega) 0 (by decide) _ _ H2.out.2 HI.out).mono ?_;rintro e w3 ⟨rfl,S3,h3,u3⟩;have H3:=zA h3 (Upd.trans ⟨H2.out.2.chg.toS,fun _ h=>.inl h⟩ u3);clear h3 u3;go_wp2_with (at_make;refine wpList_mk rfl _ _ 38 rfl sl_u8y rfl .i64 .i64 256 rfl rfl (by decide) (by decide) (by decide) (by decide) ?_;intro w4 ho4 hc4 hs4);rw[zeros256] at ho4;have H4:=zA ho4 hc4;clear ho4 hc4 hs4;have hw4:=dwrM w3 w4 S3 p _ (q+1) (H3.out.1.chg0 H4.out.2) (by have:=HH.out.2;omega) 1 (by decide) _ _ (FreshM.of ⟨H4.out.1,H4.out.2,fun k hk=>by simp[Value.ownBlock] at hk;omega⟩) H3.out.1.lt;refine hw4.mono ?_;rintro e w5 ⟨rfl,S5,h5,u5⟩;rw[setS_same (by rfl)] at h5;have H5:=zA h5 (Upd.trans ⟨H4.out.2.toS,fun _ h=>.inl h⟩ u5);clear h5 u5 hw4;go_wp2_with fail;refine (dfl w5 S5 p _ _ H5.out.1 (by have:=HH.out.2;omega)).mono ?_;rintro e w6 ⟨rfl,S6,h6,u6⟩;have H6:=zA h6 ((H3.out.2.trans H5.out.2).trans u6);clear h6 u6;go_wp2_with fail;go_ret;exact⟨rfl,S6,H6.out⟩
set_option maxRecDepth 100000 in
theorem dfmtF_ok (w:World) (S:List Nat) (p q:Nat) (h:DkR w S p 200 (fun _=>zsec) q) (hq:q≤900):
  Calls Tryz.prog 18 #[.pointer (some ⟨p,0,none⟩),.int .i64 20,.int .i64 4] w (DOk w S p fmt2 (q+7)):=by
 have HH:=zA h hq;have hsec:=dsectors_ok w S p 200 _ q h;have hfl:=dfmtL_ok w S p q h (by omega);have htp:=fun w'=>topD w' 4 (by decide)
 clear h hq;go_enter Tryz.func18,Tryz.ntmps18;go_wp2_with fail;refine hsec.mono ?_;rintro e w1 ⟨rfl,rfl⟩;clear hsec;go_wp2_with fail;refine hfl.mono ?_;rintro e w2 ⟨rfl,S2,h2,u2⟩;have H2:=zA h2 u2;clear hfl h2 u2;go_wp2_with fail;refine (htp _).mono ?_;rintro e w3 ⟨a3,c3,rfl,hT⟩;have H3:=zH hT;clear htp hT;go_wp2_with fail;refine (dwrM _ w3 S2 p _ (q+2) (H2.out.1.chg0 H3.out.chg) (by have:=HH.out.2;omega) 22 (by decide) _ _ H3.out H2.out.1.lt).mono ?_;rintro e w4 ⟨rfl,S4,h4,u4⟩;have H4:=zA h4 ((H2.out.2.nil H3.out.chg).trans u4);clear h4 u4;go_wp2_with fail;go_loopg [7,8] 4 (fun gk (v7 v8:Value) wr=>∃(i:Nat) (S':List Nat),v7=.int .i64 0∧v8=.int .i64 i∧i+gk=4∧Hid (DkR wr S' p 200 fmt2 (q+3+i)∧Upd S S' w1 wr));case atStart=>exact⟨0,S4,rfl,rfl,rfl,H4.out.1,H4.out.2⟩
 case round=>
  obtain⟨i,S5,rfl,rfl,hik,H5⟩:=hrel;by_cases hi:i<4
  ·have t1:decide ((i:Int)<4)=true:=decide_eq_true (by omega);have t1':decide (i<4)=true:=decide_eq_true hi;have e1:wrap64 (23+(i:Int))=((23+i:Nat):Int):=by rw[show 23+(i:Int)=((23+i:Nat):Int) by omega];exact w64r (by omega)
   have e2:23+(i:Int)=((23+i:Nat):Int):=by omega
   have HW:=zH (show wrap64 ((i:Int)+1)=((i+1:Nat):Int) from by rw[show (i:Int)+1=((i+1:Nat):Int) by omega];exact w64r (by omega));have HK:=zA hik hi;have E2:=zH e2;clear hik hi e2;go_wp2_with (at_make;refine wpList_mk rfl _ _ 38 rfl sl_u8y rfl .i64 .i64 256 rfl rfl (by decide) (by decide) (by decide) (by decide) ?_;intro w6 ho6 hc6 hs6);rw[zeros256] at ho6;have H6:=zA ho6 hc6;clear ho6 hc6 hs6;(try rw[E2.out]);have hw7:=dwrM wr w6 S5 p _ (q+3+i) (H5.out.1.chg0 H6.out.2) (by have:=HH.out.2;have:=HK.out;omega) (23+i) (by have:=HK.out;omega) _ _ (FreshM.of ⟨H6.out.1,H6.out.2,fun k hk=>by simp[Value.ownBlock] at hk;omega⟩) H5.out.1.lt;refine hw7.mono ?_;rintro e w7 ⟨rfl,S7,h7,u7⟩;rw[setS_same (by unfold fmt2 fmt1 setS;rw[if_neg (by omega),if_neg (by omega)])] at h7;have H7:=zA h7 ((H5.out.2.nil H6.out.2).trans u7);clear h7 u7 hw7;go_wp2_with fail;go_roundg (gk - 1);case measure=>have:=HK.out;omega
   case rel=>exact⟨i+1,S7,rfl,by rw[HW.out],by have:=HK.out;omega,H7.out.1,H7.out.2⟩
  ·have t1:decide ((i:Int)<4)=false:=decide_eq_false (by omega);have t1':decide (i<4)=false:=decide_eq_false hi;obtain rfl:i=4:=by omega
   clear hik hi;go_wp2_with fail;refine (dfl wr S5 p _ _ H5.out.1 (by have:=HH.out.2;omega)).mono ?_;rintro e w8 ⟨rfl,S8,h8,u8⟩;have H8:=zA h8 (H5.out.2.trans u8);clear h8 u8;go_wp2_with fail;go_ret;exact⟨rfl,S8,H8.out⟩
def LgD (w:World) (l p sq ps:Nat):Prop:=Blk w l #[.pointer (some ⟨p,0,none⟩),.int .i64 20,.int .i64 sq,.int .i64 ps] 201
theorem lg4 {w:World} {l p sq ps:Nat} (h:LgD w l p sq ps):w.cell? ⟨l,0,none⟩=some (.pointer (some ⟨p,0,none⟩))∧w.cell? ⟨l,1,none⟩=some (.int .i64 20)∧w.cell? ⟨l,2,none⟩=some (.int .i64 sq)∧w.cell? ⟨l,3,none⟩=some (.int .i64 ps):=
 ⟨h.cell 0,h.cell 1,h.cell 2,h.cell 3⟩
theorem LgD.chg0 {w w':World} {l p sq ps:Nat} (h:LgD w l p sq ps) (c:Chg [] w w'):LgD w' l p sq ps:=Blk.chg0 h c
theorem dhome (w:World) (l p sq ps:Nat) (h:LgD w l p sq ps):
  Calls Tryz.prog 58 #[.pointer (some ⟨l,0,none⟩)] w fun e w'=>e=.returned (.int .i64 22)∧w'=w:=by
 obtain⟨-,c1,-,-⟩:=lg4 h;clear h;go_enter Tryz.func58,Tryz.ntmps58;go_wp2_with fail;go_ret;exact⟨rfl,rfl⟩
theorem dring (w:World) (l p sq ps:Nat) (h:LgD w l p sq ps):
  Calls Tryz.prog 70 #[.pointer (some ⟨l,0,none⟩)] w fun e w'=>e=.returned (.int .i64 20)∧w'=w:=by
 obtain⟨-,c1,-,-⟩:=lg4 h;clear h;go_enter Tryz.func70,Tryz.ntmps70;go_wp2_with fail;go_ret;exact⟨rfl,rfl⟩
theorem same_no (w:World) (v v':Value) (n n':Nat) (a b:List UInt8) (h1:Sees w 1 v n (Bs a)) (h2:Sees w 1 v' n' (Bs b)) (h:decide (a=b)=false):
  Calls Tryz.prog 60 #[v,v'] w fun e w'=>e=.returned (.bool false)∧w=w':=by
 have:=same_any w v v' n n' a b h1 h2
 rwa [h] at this
set_option maxRecDepth 100000 in
theorem dmarked_no (w:World) (l p:Nat) (h:LgD w l p 1 0) (v:Value) (hv:Sees w 1 v 256 (Bs zsec)):
  Calls Tryz.prog 122 #[.pointer (some ⟨l,0,none⟩),v] w fun e w'=>e=.returned (.tuple #[.slice none 0 0,.bool false,.int .i64 0])∧Chg [] w w':=by
 have hnum:=numD w v 256 10 2 zsec hv (by decide) (by decide) (by decide) (by decide);rw[show beVal ((zsec.drop 10).take 2)=0 by kernel_rfl] at hnum;have HV:=zH hv;obtain⟨ao,cap,rfl,-⟩:=hv.shape;have H:=zH h;clear h hv;go_enter Tryz.func122,Tryz.ntmps122;go_wp2_with fail;refine hnum.mono ?_;rintro e w1 ⟨rfl,rfl⟩;clear hnum;have hL:=(H.out).chg0 ((Chg.refl [] w1).drew);obtain⟨-,c1,c2,c3⟩:=lg4 hL;have hV:=HV.out.chg0 ((Chg.refl [] w1).drew);have cw:Chg [] w1 w1.drew:=(Chg.refl _ _).drew;have hmk:=fun w'=>markD w' 1 0 0 (by decide) (by decide) (by decide)
 have hno:decide (zsec=markB 1 0 0)=false:=by kernel_rfl
 clear hL;go_wp2_with fail;refine wp_region_U [] (fun _=>false) (by kernel_rfl) ?_;generalize w1.drew=wE at *;have C0:Chg [] wE wE:=Chg.refl _ _;refine tU 0 (.slice ao 256 cap) C0 (fun w4 c4=>?_) ?_;·go_simp
 refine yG ?_;refine tU 1 (.pointer (some ⟨l,0,none⟩)) C0 (fun w4 c4=>?_) ?_;·go_simp
 refine yG ?_;refine tU 2 (.pointer (some ⟨l,0,none⟩)) C0 (fun w4 c4=>?_) ?_;·go_simp
 refine yG ?_;refine tU 3 (.pointer (some ⟨l,2,none⟩)) C0 (fun w4 c4=>?_) ?_;·go_simp
 refine yG ?_;refine tU 4 (.int .i64 1) C0 (fun w4 c4=>?_) ?_
 ·have z0:=c4.cell_some c2 (by simp);have z1:=c4.cell_some c3 (by simp);go_simp
 refine yG ?_;refine tU 5 (.pointer (some ⟨l,0,none⟩)) C0 (fun w4 c4=>?_) ?_;·go_simp
 refine yG ?_;refine tU 6 (.pointer (some ⟨l,0,none⟩)) C0 (fun w4 c4=>?_) ?_;·go_simp
 refine yG ?_;refine tU 7 (.pointer (some ⟨l,3,none⟩)) C0 (fun w4 c4=>?_) ?_;·go_simp
 refine yG ?_;refine tU 8 (.int .i64 0) C0 (fun w4 c4=>?_) ?_
 ·have z0:=c4.cell_some c2 (by simp);have z1:=c4.cell_some c3 (by simp);go_simp
 refine yG ?_;refine tU 9 (.int .i64 0) C0 (fun w4 c4=>?_) ?_;·go_simp
 refine yG ?_;refine oU 10 ?_;go_simp;refine (hmk _).mono ?_;rintro e w3 ⟨a3,p3,rfl,hM⟩;have C3:=hM.chg;refine⟨C3,?_⟩;refine yG ?_;refine oU 11 ?_;go_simp;refine (same_no _ _ _ _ _ _ _ (hV.chg0 C3) hM.sees hno).mono ?_;rintro e w4 ⟨rfl,rfl⟩;refine⟨C3,?_⟩;refine yG ?_;refine tU 12 (.bool true) C3 (fun w4 c4=>?_) ?_;·go_simp
 refine yG ?_;refine tU 13 (.bool true) C3 (fun w4 c4=>?_) ?_;·go_simp
 refine yG ?_;refine wpAnyU_skip 14 C3 rfl (by kernel_rfl) (by kernel_rfl) (by kernel_rfl) (by kernel_rfl) (fun _ _ _ h=>h) (by rfl) ?_;refine yG ?_;refine wpAnyU_skip 15 C3 rfl (by kernel_rfl) (by kernel_rfl) (by kernel_rfl) (by kernel_rfl) (fun _ _ _ h=>h) (by rfl) ?_;refine yG ?_;refine tU 16 (.bool true) C3 (fun w4 c4=>?_) ?_;·go_simp
 refine yG ?_;refine tU 17 (.bool true) C3 (fun w4 c4=>?_) ?_;·go_simp
 refine yG ?_;refine wpAnyU_skip 18 C3 rfl (by kernel_rfl) (by kernel_rfl) (by kernel_rfl) (by kernel_rfl) (fun _ _ _ h=>h) (by rfl) ?_;refine yG ?_;refine wpAnyU_skip 19 C3 rfl (by kernel_rfl) (by kernel_rfl) (by kernel_rfl) (by kernel_rfl) (fun _ _ _ h=>h) (by rfl) ?_;refine yG ?_;refine wpAnyU_skip 20 C3 rfl (by kernel_rfl) (by kernel_rfl) (by kernel_rfl) (by kernel_rfl) (fun _ _ _ h=>h) (by rfl) ?_;refine yG ?_;refine wpAnyU_skip 21 C3 rfl (by kernel_rfl) (by kernel_rfl) (by kernel_rfl) (by kernel_rfl) (fun _ _ _ h=>h) (by rfl) ?_;refine yG ?_;refine wpAnyU_skip 22 C3 rfl (by kernel_rfl) (by kernel_rfl) (by kernel_rfl) (by kernel_rfl) (fun _ _ _ h=>h) (by rfl) ?_;refine yG ?_;refine wpAnyU_skip 23 C3 rfl (by kernel_rfl) (by kernel_rfl) (by kernel_rfl) (by kernel_rfl) (fun _ _ _ h=>h) (by rfl) ?_;refine yG ?_;refine wpAnyU_skip 24 C3 rfl (by kernel_rfl) (by kernel_rfl) (by kernel_rfl) (by kernel_rfl) (fun _ _ _ h=>h) (by rfl) ?_;refine yG ?_;refine tU 25 (.bool true) C3 (fun w4 c4=>?_) ?_;·go_simp
 refine yG ?_;refine wpAnyU_done (by kernel_rfl) ?_ _;go_wp2_with fail
 go_ret3
 exact⟨rfl,cw.nil C3⟩
set_option maxRecDepth 100000 in
theorem dopenL_ok (w:World) (S:List Nat) (p q:Nat) (h:DkR w S p 200 fmt2 q) (hq:q≤1000):
  Calls Tryz.prog 56 #[.pointer (some ⟨p,0,none⟩)] w fun e w'=>∃l,e=.returned (.tuple #[.pointer (some ⟨l,0,none⟩),.bool false,.int .i64 0])∧LgD w' l p 1 0∧w.heap.size≤l∧Chg [] w w':=by
 have HH:=zA h hq;have hr0:=dread_ok w S p 200 fmt2 q h (by omega) 0 (by decide) (by decide);rw[show fmt2 0=headB 20 1 0 from rfl] at hr0;have hn1:=fun (W:World) v (hv:Sees W 1 v 256 (Bs (headB 20 1 0)))=>numD W v 256 2 2 _ hv (by decide) (by decide) (by decide) (by decide)
 have hn2:=fun (W:World) v (hv:Sees W 1 v 256 (Bs (headB 20 1 0)))=>numD W v 256 4 6 _ hv (by decide) (by decide) (by decide) (by decide)
 have hn3:=fun (W:World) v (hv:Sees W 1 v 256 (Bs (headB 20 1 0)))=>numD W v 256 10 2 _ hv (by decide) (by decide) (by decide) (by decide)
 rw[show beVal (((headB 20 1 0).drop 2).take 2)=20 by kernel_rfl] at hn1;rw[show beVal (((headB 20 1 0).drop 4).take 6)=1 by kernel_rfl] at hn2;rw[show beVal (((headB 20 1 0).drop 10).take 2)=0 by kernel_rfl] at hn3;clear h hq;go_enter Tryz.func56,Tryz.ntmps56;go_wp2_with fail;refine hr0.mono ?_;rintro e w1 ⟨a1,p1,rfl,hF1⟩;have HF:=zH hF1;clear hr0 hF1;go_wp2_with fail;refine (hn1 _ _ HF.out.own.sees).mono ?_;rintro e w2 ⟨rfl,rfl⟩;go_wp2_with fail;refine (hn2 _ _ HF.out.own.sees).mono ?_;rintro e w3 ⟨rfl,rfl⟩;go_wp2_with fail;refine (hn3 _ _ HF.out.own.sees).mono ?_;rintro e w4 ⟨rfl,rfl⟩;clear hn1 hn2 hn3;obtain⟨l,hl⟩:∃l,w4.heap.size=l:=⟨_,rfl⟩;have hL:LgD (w4.alloc (.cells #[.pointer (some ⟨p,0,none⟩),.int .i64 20,.int .i64 1,.int .i64 0] 201)) l p 1 0:=Blk.new_at w4 _ _ hl;have ca:Chg [] w4 (w4.alloc (.cells #[.pointer (some ⟨p,0,none⟩),.int .i64 20,.int .i64 1,.int .i64 0] 201)):=(Chg.refl _ _).alloc _;have HL:=zB hL ca hl;clear hL ca hl;go_upto_region 5 with (fail);generalize w4.alloc (.cells #[.pointer (some ⟨p,0,none⟩),.int .i64 20,.int .i64 1,.int .i64 0] 201)=wa at *;(try rw[HL.out.2.2]);have cd:Chg [] wa wa.drew:=(Chg.refl _ _).drew;obtain⟨c0,c1,c2,c3⟩:=lg4 (HL.out.1.chg0 cd);have HL5:=zA (HL.out.1.chg0 cd) (HL.out.2.1.nil cd);clear cd;refine wp_region_U [] (fun _=>false) (by kernel_rfl) ?_;generalize wa.drew=wE at *;have C0:Chg [] wE wE:=Chg.refl _ _;refine tU 0 (.slice a1 256 p1) C0 (fun w4 c4=>?_) ?_;·go_simp
 refine yG ?_;refine tU 1 (.pointer (some ⟨l,0,none⟩)) C0 (fun w4 c4=>?_) ?_;·go_simp
 refine yG ?_;refine tU 2 (.pointer (some ⟨l,0,none⟩)) C0 (fun w4 c4=>?_) ?_;·go_simp
 refine yG ?_;refine tU 3 (.pointer (some ⟨l,1,none⟩)) C0 (fun w4 c4=>?_) ?_;·go_simp
 refine yG ?_;refine tU 4 (.int .i64 20) C0 (fun w4 c4=>?_) ?_
 ·have z0:=c4.cell_some c1 (by simp);have z1:=c4.cell_some c2 (by simp);have z2:=c4.cell_some c3 (by simp);go_simp
 refine yG ?_;refine tU 5 (.pointer (some ⟨l,0,none⟩)) C0 (fun w4 c4=>?_) ?_;·go_simp
 refine yG ?_;refine tU 6 (.pointer (some ⟨l,0,none⟩)) C0 (fun w4 c4=>?_) ?_;·go_simp
 refine yG ?_;refine tU 7 (.pointer (some ⟨l,2,none⟩)) C0 (fun w4 c4=>?_) ?_;·go_simp
 refine yG ?_;refine tU 8 (.int .i64 1) C0 (fun w4 c4=>?_) ?_
 ·have z0:=c4.cell_some c1 (by simp);have z1:=c4.cell_some c2 (by simp);have z2:=c4.cell_some c3 (by simp);go_simp
 refine yG ?_;refine tU 9 (.pointer (some ⟨l,0,none⟩)) C0 (fun w4 c4=>?_) ?_;·go_simp
 refine yG ?_;refine tU 10 (.pointer (some ⟨l,0,none⟩)) C0 (fun w4 c4=>?_) ?_;·go_simp
 refine yG ?_;refine tU 11 (.pointer (some ⟨l,3,none⟩)) C0 (fun w4 c4=>?_) ?_;·go_simp
 refine yG ?_;refine tU 12 (.int .i64 0) C0 (fun w4 c4=>?_) ?_
 ·have z0:=c4.cell_some c1 (by simp);have z1:=c4.cell_some c2 (by simp);have z2:=c4.cell_some c3 (by simp);go_simp
 refine yG ?_;refine oU 13 ?_;go_simp;refine (headD _ 20 1 0 (by decide) (by decide) (by decide)).mono ?_;rintro e w6 ⟨a3,p3,rfl,hM⟩;have C3:=hM.chg;refine⟨C3,?_⟩;refine yG ?_;refine oU 14 ?_;go_simp;refine (same_yes _ _ _ _ _ _ _ (HF.out.own.sees.chg0 (HL5.out.2.nil C3)) hM.sees rfl).mono ?_;rintro e w7 ⟨rfl,rfl⟩;refine⟨C3,?_⟩;refine yG ?_;refine tU 15 (.bool false) C3 (fun w4 c4=>?_) ?_;·go_simp
 refine yG ?_;refine tU 16 (.bool false) C3 (fun w4 c4=>?_) ?_;·go_simp
 refine yG ?_;refine tU 17 (.pointer (some ⟨l,0,none⟩)) C3 (fun w4 c4=>?_) ?_;·go_simp
 refine yG ?_;refine tU 18 (.pointer (some ⟨l,0,none⟩)) C3 (fun w4 c4=>?_) ?_;·go_simp
 refine yG ?_;refine tU 19 (.pointer (some ⟨l,1,none⟩)) C3 (fun w4 c4=>?_) ?_;·go_simp
 refine yG ?_;refine tU 20 (.int .i64 20) C3 (fun w4 c4=>?_) ?_
 ·have z0:=c4.cell_some c1 (by simp);have z1:=c4.cell_some c2 (by simp);have z2:=c4.cell_some c3 (by simp);go_simp
 refine yG ?_;refine tU 21 (.bool false) C3 (fun w4 c4=>?_) ?_;·go_simp
 refine yG ?_;refine tU 22 (.bool false) C3 (fun w4 c4=>?_) ?_;·go_simp
 refine yG ?_;refine tU 23 (.bool false) C3 (fun w4 c4=>?_) ?_;·go_simp
 refine yG ?_;refine tU 24 (.pointer (some ⟨l,0,none⟩)) C3 (fun w4 c4=>?_) ?_;·go_simp
 refine yG ?_;refine tU 25 (.pointer (some ⟨l,0,none⟩)) C3 (fun w4 c4=>?_) ?_;·go_simp
 refine yG ?_;refine tU 26 (.pointer (some ⟨l,1,none⟩)) C3 (fun w4 c4=>?_) ?_;·go_simp
 refine yG ?_;refine tU 27 (.int .i64 20) C3 (fun w4 c4=>?_) ?_
 ·have z0:=c4.cell_some c1 (by simp);have z1:=c4.cell_some c2 (by simp);have z2:=c4.cell_some c3 (by simp);go_simp
 refine yG ?_;refine tU 28 (.pointer (some ⟨p,0,none⟩)) C3 (fun w4 c4=>?_) ?_;·go_simp
 refine yG ?_;refine wpAnyU_call 29 (v:=(.int .i64 200)) C3 rfl (by kernel_rfl) (by kernel_rfl) (by kernel_rfl) (by kernel_rfl) (fun _ _ _ h=>h) (by rfl) (fun w4 c4=>?_) (fun w4 c4=>dsectors_ok w4 S p 200 fmt2 q (HH.out.1.chg0 ((HF.out.chg.nil HL5.out.2).nil c4))) ?_;·go_simp
 refine yG ?_;refine tU 30 (.int .i64 196) C3 (fun w4 c4=>?_) ?_
 ·go_simp;rfl
 refine yG ?_;refine tU 31 (.bool false) C3 (fun w4 c4=>?_) ?_;·go_simp
 refine yG ?_;refine tU 32 (.bool false) C3 (fun w4 c4=>?_) ?_;·go_simp
 refine yG ?_;refine tU 33 (.bool false) C3 (fun w4 c4=>?_) ?_;·go_simp
 refine yG ?_;refine tU 34 (.pointer (some ⟨l,0,none⟩)) C3 (fun w4 c4=>?_) ?_;·go_simp
 refine yG ?_;refine tU 35 (.pointer (some ⟨l,0,none⟩)) C3 (fun w4 c4=>?_) ?_;·go_simp
 refine yG ?_;refine tU 36 (.pointer (some ⟨l,3,none⟩)) C3 (fun w4 c4=>?_) ?_;·go_simp
 refine yG ?_;refine tU 37 (.int .i64 0) C3 (fun w4 c4=>?_) ?_
 ·have z0:=c4.cell_some c1 (by simp);have z1:=c4.cell_some c2 (by simp);have z2:=c4.cell_some c3 (by simp);go_simp
 refine yG ?_;refine tU 38 (.pointer (some ⟨l,0,none⟩)) C3 (fun w4 c4=>?_) ?_;·go_simp
 refine yG ?_;refine tU 39 (.pointer (some ⟨l,0,none⟩)) C3 (fun w4 c4=>?_) ?_;·go_simp
 refine yG ?_;refine tU 40 (.pointer (some ⟨l,1,none⟩)) C3 (fun w4 c4=>?_) ?_;·go_simp
 refine yG ?_;refine tU 41 (.int .i64 20) C3 (fun w4 c4=>?_) ?_
 ·have z0:=c4.cell_some c1 (by simp);have z1:=c4.cell_some c2 (by simp);have z2:=c4.cell_some c3 (by simp);go_simp
 refine yG ?_;refine tU 42 (.bool false) C3 (fun w4 c4=>?_) ?_;·go_simp
 refine yG ?_;refine tU 43 (.bool false) C3 (fun w4 c4=>?_) ?_;·go_simp
 refine yG ?_;refine wpAnyU_done (by kernel_rfl) ?_ _;have HC:=zA (HL5.out.1.chg0 C3) (HL5.out.2.nil C3);clear c0 c1 c2 c3 C0 C3;go_wp2_with fail;have hr1:=dread_ok w6 S p 200 fmt2 q (HH.out.1.chg0 (HF.out.chg.nil HC.out.2)) (by have:=HH.out.2;omega) 1 (by decide) (by decide);rw[show fmt2 1=zsec from rfl] at hr1;refine hr1.mono ?_;rintro e w8 ⟨a8,p8,rfl,hF8⟩;have H8:=zB (HC.out.1.chg0 hF8.chg) (HC.out.2.nil hF8.chg) hF8.own.sees;clear hr1 hF8;go_wp2_with fail;refine (dmarked_no w8 l p H8.out.1 _ H8.out.2.2).mono ?_;rintro e w9 ⟨rfl,c9⟩;have H9:=zA (H8.out.1.chg0 c9) (H8.out.2.1.nil c9);clear c9;go_wp2_with fail
 go_ret3
 exact⟨l,rfl,H9.out.1,by have h1:=HL.out.2.2;have h2:=HF.out.chg.size;omega,HF.out.chg.nil H9.out.2⟩
end Go.Proofs.YtlbdklaggalgfaaGreatDoor
