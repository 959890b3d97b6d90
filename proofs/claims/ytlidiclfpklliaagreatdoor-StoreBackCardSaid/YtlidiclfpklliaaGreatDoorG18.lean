/- ShaMix2 ShaPad ShaSum -/
import Derived.Test.YtlidiclfpklliaaGreatDoorG17
import Derived.Test.YtlidiclfpklliaaGreatDoorG04
import Derived.Test.YtlidiclfpklliaaGreatDoorG15
set_option linter.unusedVariables false
set_option maxHeartbeats 1000000
namespace Go.Aq.Sha
def stL (s:St):List Nat:=[s.a,s.b,s.c,s.d,s.e,s.f,s.g,s.h]
def wfS (s:St):Prop:=s.a<4294967296∧s.b<4294967296∧s.c<4294967296∧s.d<4294967296∧s.e<4294967296∧s.f<4294967296∧s.g<4294967296∧s.h<4294967296
set_option maxRecDepth 100000 in
theorem rounds_snoc (w:List Nat):∀(n i:Nat) (s:St),rounds s w (n+1) i=round (rounds s w n i) (K.getD (i+n) 0) (w.getD (i+n) 0)
 | 0,i,s=>rfl
 | n+1,i,s=>by
  rw[rounds,rounds_snoc w n (i+1),rounds,show i+1+n=i+(n+1) by omega]
set_option maxRecDepth 100000 in
theorem round_wf (s:St) (k w:Nat) (h:wfS s):wfS (round s k w):=by
 obtain⟨h1,h2,h3,h4,h5,h6,h7,h8⟩:=h
 exact⟨Nat.mod_lt _ (by decide),h1,h2,h3,Nat.mod_lt _ (by decide),h5,h6,h7⟩
set_option maxRecDepth 100000 in
theorem rounds_wf (w:List Nat) (s:St) (h:wfS s):∀n,wfS (rounds s w n 0)
 | 0=>h
 | n+1=>by rw[rounds_snoc];exact round_wf _ _ _ (rounds_wf w s h n)
set_option maxRecDepth 100000 in
theorem mix_wf (s:St) (b:List UInt8) (a:Nat):wfS (mix s b a):=
 ⟨Nat.mod_lt _ (by decide),Nat.mod_lt _ (by decide),Nat.mod_lt _ (by decide),Nat.mod_lt _ (by decide),Nat.mod_lt _ (by decide),Nat.mod_lt _ (by decide),Nat.mod_lt _ (by decide),Nat.mod_lt _ (by decide)⟩
set_option maxRecDepth 100000 in
theorem K_len:K.length=64:=by decide
set_option maxRecDepth 100000 in
theorem K_lt (i:Nat):K.getD i 0<4294967296:=by
 have h:(K.all fun n=>decide (n<4294967296))=true:=by decide
 rw[List.getD_eq_getElem?_getD]
 by_cases hi:i<K.length
 ·rw[List.getElem?_eq_getElem hi]
  have:=List.all_eq_true.1 h _ (List.getElem_mem hi)
  simpa using this
 ·rw[List.getElem?_eq_none (by omega)];decide
set_option maxRecDepth 100000 in
theorem cellsK_get (i:Nat) (h:i<64):cellsK.toArray[8+i]?=some (.int .u32 (K.getD i 0:Nat)):=by
 unfold cellsK
 rw[List.getElem?_toArray,List.getElem?_map,List.getElem?_append_right (by simp[H0]),show 8+i - H0.length=i by simp[H0]]
 rw[List.getElem?_eq_getElem (by rw[K_len];exact h),List.getD_eq_getElem?_getD,List.getElem?_eq_getElem (by rw[K_len];exact h)]
 rfl
def addL (s t:St) (j:Nat):List Nat:=(List.range 8).map fun m=>if m<j then ((stL s).getD m 0+(stL t).getD m 0) % m32 else (stL s).getD m 0
set_option maxRecDepth 100000 in
theorem addL_zero (s t:St):addL s t 0=stL s:=rfl
set_option maxRecDepth 100000 in
theorem addL_len (s t:St) (j:Nat):(addL s t j).length=8:=by simp[addL]
set_option maxRecDepth 100000 in
theorem addL_get (s t:St) (j:Nat) (h:j<8):(addL s t j).getD j 0=(stL s).getD j 0:=by simp[addL,List.getD_eq_getElem?_getD,h]
set_option maxRecDepth 100000 in
theorem addL_set (s t:St) (j:Nat) (h:j<8):(addL s t j).set j (((stL s).getD j 0+(stL t).getD j 0) % m32)=addL s t (j+1):=by
 apply List.ext_getElem
 ·simp[addL]
 ·intro i h1 h2
  simp only[List.getElem_set,addL,List.getElem_map,List.getElem_range]
  by_cases hij:j=i
  ·subst hij;rw[if_pos rfl,if_pos (by omega)]
  ·rw[if_neg hij]
   by_cases hi:i<j
   ·rw[if_pos hi,if_pos (by omega)]
   ·rw[if_neg hi,if_neg (by omega)]
set_option maxRecDepth 100000 in
theorem addL_all (s t:St):addL s t 8=[(s.a+t.a) % m32,(s.b+t.b) % m32,(s.c+t.c) % m32,(s.d+t.d) % m32,(s.e+t.e) % m32,(s.f+t.f) % m32,(s.g+t.g) % m32,(s.h+t.h) % m32]:=by
 unfold addL
 have e:List.range 8=[0,1,2,3,4,5,6,7]:=rfl
 rw[e]
 simp only[List.map_cons,List.map_nil]
 generalize m32=m
 rfl
set_option maxRecDepth 100000 in
theorem stL_lt (s:St) (h:wfS s) (j:Nat) (hj:j<8):(stL s).getD j 0<4294967296:=by
 obtain⟨h0,h1,h2,h3,h4,h5,h6,h7⟩:=h
 match j,hj with
 | 0,_=>exact h0
 | 1,_=>exact h1
 | 2,_=>exact h2
 | 3,_=>exact h3
 | 4,_=>exact h4
 | 5,_=>exact h5
 | 6,_=>exact h6
 | 7,_=>exact h7
end Go.Aq.Sha
namespace Go.Proofs.YtlidiclfpklliaaGreatDoor
open Go.RowKit Go.Aq Go.Aq.Sha
set_option maxRecDepth 100000 in
theorem not32 (e:Nat) (he:e<4294967296):bits .xor .u32 (if IntKind.u32.signed=true then -1 else IntKind.u32.max) (e:Int)=((4294967295 - e:Nat):Int):=by
 have h1:(if IntKind.u32.signed=true then -1 else IntKind.u32.max)=((4294967295:Nat):Int):=by decide
 rw[h1,(bits_u32 4294967295 e (by decide) he).2.2]
 congr 1
 have:BitVec.toNat (~~~ (BitVec.ofNat 32 e))=4294967295 - e:=by rw[BitVec.toNat_not,BitVec.toNat_ofNat,Nat.mod_eq_of_lt he]
 rw[←this]
 have h2: ~~~ (BitVec.ofNat 32 e)=(BitVec.allOnes 32) ^^^ (BitVec.ofNat 32 e):=by rw[BitVec.allOnes_xor]
 rw[h2,BitVec.toNat_xor,BitVec.toNat_allOnes,BitVec.toNat_ofNat,Nat.mod_eq_of_lt he]
set_option maxRecDepth 100000 in
theorem Ws_one (l:List Nat):∀v∈(Ws l).toArray.toList,v.oneCell'=true:=by
 intro v hv
 simp only[Ws,List.mem_map] at hv
 obtain⟨n,-,rfl⟩:=hv
 rfl
set_option maxRecDepth 100000 in
theorem arr64 (l:List Nat) (h:l.length=64):ArrTy Tryz.prog 278 (Ws l).toArray.size:=⟨⟨_,Tryz.underlying278,rfl⟩,by rw[List.size_toArray,Ws_length,h];kernel_rfl⟩
set_option maxRecDepth 100000 in
theorem arr8 (l:List Nat) (h:l.length=8):ArrTy Tryz.prog 226 (Ws l).toArray.size:=⟨⟨_,Tryz.underlying226,rfl⟩,by rw[List.size_toArray,Ws_length,h];kernel_rfl⟩
set_option maxRecDepth 100000 in
theorem idx8 (T:St) (j:Nat) (hj:j<8) (w:World):(Instr.index 226 (.agg (Ws (stL T)).toArray) (.int .i64 (j:Int))).run Tryz.prog w=.ok (.int .u32 ((stL T).getD j 0:Nat)) w:=by
 match j,hj with
 | 0,_=>rfl
 | 1,_=>rfl
 | 2,_=>rfl
 | 3,_=>rfl
 | 4,_=>rfl
 | 5,_=>rfl
 | 6,_=>rfl
 | 7,_=>rfl
def z8:List Nat:=List.replicate 8 0
def z64:List Nat:=List.replicate 64 0
set_option maxRecDepth 100000 in
theorem mix_any (w:World) (C S:Nat) (v:Value) (b:List UInt8) (s:St) (hs:wfS s) (hC:Blk w C cellsK.toArray 280) (hS:Blk w S (Ws (stL s)).toArray 226) (hv:Sees w 1 v 64 (Bs b)) (hSC:S≠C) (hSv:S∉eyes v):
  Calls Tryz.prog 190 #[.pointer (some ⟨C,0,none⟩),.pointer (some ⟨S,0,none⟩),v] w fun e w'=>e=.returned (.tuple #[])∧Blk w' S (Ws (stL (mix s b 0))).toArray 226∧Chg [S] w w':=by
 have hz64:∀w,(zeroValue 278).run Tryz.prog w=.ok (.agg (Ws z64).toArray) w:=fun _=>by kernel_rfl
 have hz8:∀w,(zeroValue 226).run Tryz.prog w=.ok (.agg (Ws z8).toArray) w:=fun _=>by kernel_rfl
 have l8:(stL s).length=8:=rfl
 have W64:=sched_len b 0
 have a64:=arr64 (sched b 0) W64
 have s64:(Ws z64).toArray.size=(Ws (sched b 0)).toArray.size:=by rw[List.size_toArray,Ws_length,List.size_toArray,Ws_length,W64];rfl
 have o64:=Ws_one (sched b 0)
 have a8:=arr8 (stL s) rfl
 have s8:(Ws z8).toArray.size=(Ws (stL s)).toArray.size:=by rw[List.size_toArray,Ws_length,List.size_toArray,Ws_length];rfl
 have o8:=Ws_one (stL s)
 have A64:=zH a64
 have S64:=zH s64
 have O64:=zH o64
 have A8:=zH a8
 have S8:=zH s8
 have O8:=zH o8
 clear a64 s64 o64 a8 s8 o8 W64 l8
 have hmix:∀T:St,T=rounds s (sched b 0) 64 0→stL (mix s b 0)=[(s.a+T.a) % m32,(s.b+T.b) % m32,(s.c+T.c) % m32,(s.d+T.d) % m32,(s.e+T.e) % m32,(s.f+T.f) % m32,(s.g+T.g) % m32,(s.h+T.h) % m32]:=by
  rintro T rfl;rfl
 have HM:=zH hmix;clear hmix
 go_enter Tryz.func190,Tryz.ntmps190
 go_wp2_with fail
 refine (schedule_any w v b hv).mono ?_
 rintro e w1 ⟨rfl,hc1⟩
 have hS1:=hS.chg0 hc1
 have hC1:=hC.chg0 hc1
 have hl1:=hS1.lt
 have HL1:=zH hl1;clear hl1
 go_upto_region 1 with (with_reducible refine wpList_stA rfl 278 _ _ rfl (Blk.new w1 (Ws z64).toArray 278) A64.out S64.out O64.out rfl rfl ?_;intro w2 hB2 hc2 hs2)
 have hcA:Chg [] w1 (w1.alloc (.cells (Ws z64).toArray 278)):=(Chg.refl [] w1).alloc _
 have hcB:Chg [] w w2:=hc1.trans (hcA.trans hc2 (by simp)) (by simp)
 have hS2:=(hS1.chg0 hcA).chg hc2 (by have:=HL1.out;simp;omega)
 have hC2:=(hC1.chg0 hcA).chg hc2 (by have:=hC1.lt;simp;omega)
 have hB1l:w.heap.size≤w1.heap.size:=hc1.size
 have hSl:=hS.lt
 have hCl:=hC.lt
 have hw2s:w2.heap.size=w1.heap.size+1:=by rw[hs2];simp
 generalize w1.heap.size=B1 at *
 have HF:=zC hB1l hSl hCl hw2s
 clear hcA hc1 hc2 hs2 hS1 hC1 HL1 hB1l hSl hCl hw2s w1
 go_upto_region 2 with (first
  | (with_reducible refine wpList_ldA rfl 226 _ rfl hS2 A8.out rfl ?_)
  | (with_reducible refine wpList_stA rfl 226 _ _ rfl (Blk.new w2 (Ws z8).toArray 226) A8.out S8.out O8.out rfl rfl ?_;intro w3 hB3 hc3 hs3))
 have hcA:Chg [] w2 (w2.alloc (.cells (Ws z8).toArray 226)):=(Chg.refl [] w2).alloc _
 have hcC:Chg [] w w3:=hcB.trans (hcA.trans hc3 (by simp)) (by simp)
 have hS3:=(hS2.chg0 hcA).chg hc3 (by have:=hS2.lt;simp;omega)
 have hC3:=(hC2.chg0 hcA).chg hc3 (by have:=hC2.lt;simp;omega)
 have hB13:=(hB2.chg0 hcA).chg hc3 (by have:=hB2.lt;simp;omega)
 have hne:B1≠w2.heap.size∧S≠w2.heap.size∧C≠w2.heap.size∧S≠B1∧w.heap.size≤w2.heap.size:=by have:=HF.out;omega
 clear HF
 generalize w2.heap.size=B2 at *
 have HN:=zH hne
 clear hcA hcB hc3 hs3 hS2 hC2 hB2 hne w2 hz64 hz8 A64 S64 O64 A8 S8 O8
 have HW:=zH (sched_lt b 0)
 have HWL:=zH (sched_len b 0)
 generalize sched b 0=W at *
 have HSW:=zH hs;clear hs
 go_wp2_with fail
 go_loopg [22] 64 (fun k vi wr=>∃(i:Nat),vi=.int .i64 i∧i+k=64∧Blk wr B2 (Ws (stL (rounds s W i 0))).toArray 226∧Chg [B2] w3 wr)
 case atStart=>exact⟨0,rfl,by omega,hB3,Chg.refl _ _⟩
 case round=>
  clear hB3
  obtain⟨i,rfl,hik,hb,hcr⟩:=hrel
  by_cases hlt:i<64
  ·have hwf:=rounds_wf W s HSW.out i
   have hstep:=rounds_snoc W i 0 s
   rw[Nat.zero_add] at hstep
   have hk:=K_lt i
   have hwi:=HW.out i
   obtain⟨k,hkk⟩:∃k,K.getD i 0=k:=⟨_,rfl⟩
   obtain⟨x,hxx⟩:∃x,W.getD i 0=x:=⟨_,rfl⟩
   rw[hkk] at hk hstep
   rw[hxx] at hwi hstep
   have HK:=zH hkk;clear hkk
   have HX:=zH hxx;clear hxx
   have kc:wr.cell? ⟨C,8+i,none⟩=some (.int .u32 (k:Nat)):=by
    rw[(hC3.chg hcr (by simpa using HN.out.2.2.1)).cell,cellsK_get i hlt,HK.out]
   have wc:wr.cell? ⟨B1,i,none⟩=some (.int .u32 (x:Nat)):=by
    rw[(hB13.chg hcr (by simpa using HN.out.1)).cell,List.getElem?_toArray,Ws_get _ _ (by rw[HWL.out];exact hlt),HX.out]
   generalize rounds s W i 0=T at *
   obtain⟨a,b',c,d,e,f,g,h⟩:=T
   obtain⟨la,lb,lc,ld,le,lf,lg,lh⟩:=hwf
   simp only at la lb lc ld le lf lg lh
   have m0:wr.cell? ⟨B2,0,none⟩=some (.int .u32 (a:Nat)):=by rw[hb.cell];rfl
   have m1:wr.cell? ⟨B2,1,none⟩=some (.int .u32 (b':Nat)):=by rw[hb.cell];rfl
   have m2:wr.cell? ⟨B2,2,none⟩=some (.int .u32 (c:Nat)):=by rw[hb.cell];rfl
   have m3:wr.cell? ⟨B2,3,none⟩=some (.int .u32 (d:Nat)):=by rw[hb.cell];rfl
   have m4:wr.cell? ⟨B2,4,none⟩=some (.int .u32 (e:Nat)):=by rw[hb.cell];rfl
   have m5:wr.cell? ⟨B2,5,none⟩=some (.int .u32 (f:Nat)):=by rw[hb.cell];rfl
   have m6:wr.cell? ⟨B2,6,none⟩=some (.int .u32 (g:Nat)):=by rw[hb.cell];rfl
   have m7:wr.cell? ⟨B2,7,none⟩=some (.int .u32 (h:Nat)):=by rw[hb.cell];rfl
   have t64:decide ((i:Int)<64)=true:=by simp;omega
   have i64:(i:Int)<64:=by omega
   have HIK:=zH hik;clear hik
   have HST:=zH hstep;clear hstep
   go_wp2_with fail
   go_quiet (fail)
   have hb':Blk (wr.drewN nq) B2 (Ws (stL ⟨a,b',c,d,e,f,g,h⟩)).toArray 226:=hb
   have hcr':=hcr.drewN nq
   have CF:=zH (show (wr.drewN nq).cell? ⟨C,8+i,none⟩=some (.int .u32 (k:Nat))∧(wr.drewN nq).cell? ⟨B1,i,none⟩=some (.int .u32 (x:Nat)) from ⟨kc,wc⟩)
   clear m0 m1 m2 m3 m4 m5 m6 m7 kc wc hb hcr
   generalize wr.drewN nq=w4 at *
   clear wr
   obtain⟨p6,b6,e6⟩:∃p,p<4294967296∧rotr e 6=p:=⟨_,rotr_lt _ _,rfl⟩
   obtain⟨p11,b11,e11⟩:∃p,p<4294967296∧rotr e 11=p:=⟨_,rotr_lt _ _,rfl⟩
   obtain⟨p25,b25,e25⟩:∃p,p<4294967296∧rotr e 25=p:=⟨_,rotr_lt _ _,rfl⟩
   obtain⟨p2,b2,e2⟩:∃p,p<4294967296∧rotr a 2=p:=⟨_,rotr_lt _ _,rfl⟩
   obtain⟨p13,b13,e13⟩:∃p,p<4294967296∧rotr a 13=p:=⟨_,rotr_lt _ _,rfl⟩
   obtain⟨p22,b22,e22⟩:∃p,p<4294967296∧rotr a 22=p:=⟨_,rotr_lt _ _,rfl⟩
   have HE:=zC (And.intro e6 (And.intro e11 e25)) e2 e13 e22
   obtain⟨y1,by1,hy1,ey1⟩:=x32 p6 p11 b6 b11
   obtain⟨y2,by2,hy2,ey2⟩:=x32 y1 p25 by1 b25
   obtain⟨z1,bz1,hz1,ez1⟩:=x32 p2 p13 b2 b13
   obtain⟨z2,bz2,hz2,ez2⟩:=x32 z1 p22 bz1 b22
   have r6:=rotL w4 e (-6) 6 (by decide) le (by decide) (by decide)
   have r11:=rotL w4 e (-11) 11 (by decide) le (by decide) (by decide)
   have r25:=rotL w4 e (-25) 25 (by decide) le (by decide) (by decide)
   have r2:=rotL w4 a (-2) 2 (by decide) la (by decide) (by decide)
   have r13:=rotL w4 a (-13) 13 (by decide) la (by decide) (by decide)
   have r22:=rotL w4 a (-22) 22 (by decide) la (by decide) (by decide)
   rw[e6] at r6
   rw[e11] at r11
   rw[e25] at r25
   rw[e2] at r2
   rw[e13] at r13
   rw[e22] at r22
   clear e6 e11 e25 e2 e13 e22
   have R6:=zH r6
   have R11:=zH r11
   have R25:=zH r25
   have R2:=zH r2
   have R13:=zH r13
   have R22:=zH r22
   clear r6 r11 r25 r2 r13 r22
   go_wp2_with fail
   refine R6.out.mono ?_
   rintro e' w5 ⟨rfl,rfl⟩
   go_wp2_with fail
   refine R11.out.mono ?_
   rintro e' w5 ⟨rfl,rfl⟩
   go_wp2_with fail
   refine R25.out.mono ?_
   rintro e' w5 ⟨rfl,rfl⟩
   go_wp2_with fail
   refine R2.out.mono ?_
   rintro e' w5 ⟨rfl,rfl⟩
   go_wp2_with fail
   refine R13.out.mono ?_
   rintro e' w5 ⟨rfl,rfl⟩
   go_wp2_with fail
   refine R22.out.mono ?_
   rintro e' w5 ⟨rfl,rfl⟩
   obtain⟨kc,wc⟩:=CF.out
   have m7:w4.cell? ⟨B2,7,none⟩=some (.int .u32 (h:Nat)):=by rw[hb'.cell];rfl
   have m5:w4.cell? ⟨B2,5,none⟩=some (.int .u32 (f:Nat)):=by rw[hb'.cell];rfl
   have m6:w4.cell? ⟨B2,6,none⟩=some (.int .u32 (g:Nat)):=by rw[hb'.cell];rfl
   obtain⟨n1,bn1,hn1,en1⟩:∃n:Nat,n<4294967296∧bits .xor .u32 (if IntKind.u32.signed=true then -1 else IntKind.u32.max) (e:Int)=(n:Int)∧Hid (n=4294967295 - e):=⟨_,by omega,not32 e le,zH rfl⟩
   obtain⟨y3,by3,hy3,ey3⟩:=a32 e f le lf
   obtain⟨y4,by4,hy4,ey4⟩:=a32 n1 g bn1 lg
   obtain⟨y5,by5,hy5,ey5⟩:=x32 y3 y4 by3 by4
   go_wp2_with fail
   go_quiet (fail)
   obtain⟨t,bt,ht,et⟩:∃t:Nat,t<4294967296∧(((h:Int)+y2+y5+k) % 4294967296+x) % 4294967296=(t:Int)∧Hid (t=(h+y2+y5+k+x) % m32):=⟨(h+y2+y5+k+x) % m32,Nat.mod_lt _ (by decide),by simp[m32],zH rfl⟩
   rw[ht]
   have hb2:Blk (w4.drewN nq) B2 (Ws (stL ⟨a,b',c,d,e,f,g,h⟩)).toArray 226:=hb'
   have hcr2:=hcr'.drewN nq
   clear ht hn1 hy3 hy4 hy5 m5 m6 m7 kc wc hb' hcr' CF R6 R11 R25 R2 R13 R22 hy1 hy2 hz1 hz2
   generalize w4.drewN nq=w5 at *
   clear w4
   have m1:w5.cell? ⟨B2,1,none⟩=some (.int .u32 (b':Nat)):=by rw[hb2.cell];rfl
   have m2:w5.cell? ⟨B2,2,none⟩=some (.int .u32 (c:Nat)):=by rw[hb2.cell];rfl
   have m3:w5.cell? ⟨B2,3,none⟩=some (.int .u32 (d:Nat)):=by rw[hb2.cell];rfl
   have m5:w5.cell? ⟨B2,5,none⟩=some (.int .u32 (f:Nat)):=by rw[hb2.cell];rfl
   have m6:w5.cell? ⟨B2,6,none⟩=some (.int .u32 (g:Nat)):=by rw[hb2.cell];rfl
   obtain⟨j1,bj1,hj1,ej1⟩:=a32 a b' la lb
   obtain⟨j2,bj2,hj2,ej2⟩:=a32 a c la lc
   obtain⟨j3,bj3,hj3,ej3⟩:=x32 j1 j2 bj1 bj2
   obtain⟨j4,bj4,hj4,ej4⟩:=a32 b' c lb lc
   obtain⟨j5,bj5,hj5,ej5⟩:=x32 j3 j4 bj3 bj4
   go_upto_region 10 with (fail)
   obtain⟨u,bu,hu,eu⟩:∃u:Nat,u<4294967296∧((z2:Int)+j5) % 4294967296=(u:Int)∧Hid (u=(z2+j5) % m32):=⟨(z2+j5) % m32,Nat.mod_lt _ (by decide),by simp[m32],zH rfl⟩
   rw[hu]
   clear hu hj1 hj2 hj3 hj4 hj5
   obtain⟨na,bna,hna,ena⟩:∃u':Nat,u'<4294967296∧((t:Int)+u) % 4294967296=(u':Int)∧Hid (u'=(t+u) % m32):=⟨(t+u) % m32,Nat.mod_lt _ (by decide),by simp[m32],zH rfl⟩
   obtain⟨ne,bne,hne,ene⟩:∃u':Nat,u'<4294967296∧((d:Int)+t) % 4294967296=(u':Int)∧Hid (u'=(d+t) % m32):=⟨(d+t) % m32,Nat.mod_lt _ (by decide),by simp[m32],zH rfl⟩
   have hR:rounds s W (i+1) 0=⟨na,a,b',c,ne,e,f,g⟩:=by
    rw[HST.out]
    unfold round
    simp only
    have q1:S1 e=y2:=by unfold S1;rw[ey2.out,ey1.out,HE.out.1.1,HE.out.1.2.1,HE.out.1.2.2]
    have q2:ch e f g=y5:=by unfold ch;rw[ey5.out,ey3.out,ey4.out,en1.out];rfl
    have q3:S0 a=z2:=by unfold S0;rw[ez2.out,ez1.out,HE.out.2.1,HE.out.2.2.1,HE.out.2.2.2]
    have q4:maj a b' c=j5:=by unfold maj;rw[ej5.out,ej3.out,ej1.out,ej2.out,ej4.out]
    rw[q1,q2,q3,q4,←et.out,←eu.out,←ena.out,←ene.out]
   have HR:=zH hR;clear hR
   go_wp2_with (refine wpList_stA rfl 226 _ _ rfl (cs:=(Ws (stL ⟨na,a,b',c,ne,e,f,g⟩)).toArray) hb2 (arr8 _ rfl) rfl (Ws_one _) rfl rfl ?_;intro w6 hb6 hc6 hs6)
   go_roundg (gk - 1)
   case measure=>have:=HIK.out;omega
   case rel=>exact⟨i+1,by go_num,by have:=HIK.out;omega,by rw[HR.out];exact hb6,hcr2.tr hc6⟩
  ·have hi:i=64:=by omega
   subst hi
   have hwf:=rounds_wf W s HSW.out 64
   have hmm:=HM.out (rounds s W 64 0) rfl
   have hS4:=hS3.chg hcr (by simpa using HN.out.2.1)
   generalize rounds s W 64 0=T at *
   have HMM:=zH hmm
   have HWF:=zH hwf
   clear hmm hwf HM hik
   have hcw:Chg [S] w wr:=hcC.trans hcr (by have:=HN.out;simp;omega) |>.toS
   have hne2:S≠B2:=HN.out.2.1
   clear hcr hcC hS3 hC3 hB13 HN HW HWL hS hC hv
   rw[←addL_zero s T] at hS4
   obtain⟨G,hG⟩:∃G,G=gk:=⟨_,rfl⟩
   obtain⟨wo,hwo⟩:∃wo:World,wo=wr:=⟨_,rfl⟩
   clear hG
   rw[←hwo] at hS4 hb hcw
   subst hwo
   go_wp2_with (with_reducible refine wpList_ldA rfl 226 _ rfl hb (arr8 _ rfl) rfl ?_)
   go_loopg [108] 8 (fun k vi wr=>∃(j:Nat),vi=.int .i64 j∧j+k=8∧Blk wr S (Ws (addL s T j)).toArray 226∧Chg [S] w wr)
   case atStart=>exact⟨0,rfl,by omega,hS4,hcw⟩
   case round=>
    clear hS4 hcw hb
    obtain⟨j,rfl,hjk,hS5,hcw⟩:=hrel
    by_cases hj:j<8
    ·have t8:decide ((j:Int)<8)=true:=by simp;omega
     have i8:(j:Int)<8:=by omega
     have hix:=idx8 T j hj
     have hst:=addL_set s T j hj
     have lx:=stL_lt T HWF.out j hj
     have ls:=stL_lt s HSW.out j hj
     have x0:wr.cell? ⟨S,j,none⟩=some (.int .u32 ((stL s).getD j 0:Nat)):=by
      rw[hS5.cell,List.getElem?_toArray,Ws_get _ _ (by rw[addL_len];exact hj),addL_get s T j hj]
     have f0:=hS5.frozen j
     generalize (stL T).getD j 0=x at *
     generalize (stL s).getD j 0=y at *
     have hb2:=(hS5.set j (.int .u32 (((y+x) % m32:Nat):Int))).drew
     have hc2:=(hcw.setCell (p:=⟨S,j,none⟩) (by simp) (.int .u32 (((y+x) % m32:Nat):Int))).drew
     rw[List.setIfInBounds_toArray,Ws_set,hst] at hb2
     have e4:(((y+x) % m32:Nat):Int)=((y:Int)+x) % 4294967296:=by simp[m32]
     rw[e4] at hb2 hc2
     have HJK:=zH hjk
     clear e4 hst hjk
     go_wp2_with fail
     go_region
     generalize (wr.setCell ⟨S,j,none⟩ (.int .u32 (((y:Int)+x) % 4294967296))).drew=w7 at *
     go_wp2_with fail
     go_roundg (gk - 1)
     case measure=>have:=HJK.out;omega
     case rel=>exact⟨j+1,by go_num,by have:=HJK.out;omega,hb2,hc2⟩
    ·have hj8:j=8:=by omega
     subst hj8
     go_wp2_with fail
     go_end0
     refine⟨rfl,?_,hcw⟩
     rw[HMM.out,←addL_all]
     exact hS5
end Go.Proofs.YtlidiclfpklliaaGreatDoor
namespace Go.Aq
theorem Fresh.base {w w1 w':World} {e:TypeId} {size:Nat} {v:Value} {n:Nat} {xs:List Value} (h:Fresh w1 w' e size v n xs) (c:Chg [] w w1):Fresh w w' e size v n xs:=
 ⟨h.own,c.trans h.chg (by simp),fun k hk=>Nat.le_trans c.size (h.new k hk)⟩
end Go.Aq
namespace Go.Aq.Sha
theorem beB_succ (n k:Nat):beB n (k+1)=UInt8.ofNat (n / 2^(8 * k))::beB n k:=by simp[beB,leBy,List.range_succ]
theorem be_eq (n:Nat):∀k,be n k=beB n k
 | 0=>rfl
 | k+1=>by rw[be,be_eq n k,beB_succ,Nat.shiftRight_eq_div_pow]
theorem be8 (n:Nat) (h:n<281474976710656):be n 8=List.replicate 2 0++beB n 6:=by
 rw[be_eq,beB_succ,beB_succ]
 have h1:n / 2^(8 * 7)=0:=Nat.div_eq_of_lt (by omega)
 have h2:n / 2^(8 * 6)=0:=Nat.div_eq_of_lt (by omega)
 rw[h1,h2]
 rfl
theorem zeros_done (n:Nat):(n+1+zeros n) % 64=56:=by unfold zeros;omega
theorem zeros_not (n j:Nat) (h:j<zeros n):(n+1+j) % 64≠56:=by unfold zeros at h;omega
theorem zeros_lt (n:Nat):zeros n<64:=by unfold zeros;omega
theorem pad_length (b:List UInt8):(pad b).length=b.length+1+zeros b.length+8:=by
 unfold pad
 rw[be_eq]
 simp only[List.length_append,List.length_cons,List.length_nil,List.length_replicate,beB_length]
theorem pad_mod (b:List UInt8):(pad b).length % 64=0:=by rw[pad_length];have:=zeros_done b.length;omega
end Go.Aq.Sha
namespace Go.Proofs.YtlidiclfpklliaaGreatDoor
open Go.RowKit Go.Aq Go.Aq.Sha
set_option maxRecDepth 100000 in
theorem shaclone_any (w:World) (v:Value) (n:Nat) (b:List UInt8) (hv:Sees w 1 v n (Bs b)) (hn:n≤140737488355328):
  Calls Tryz.prog 52 #[v] w fun e w'=>∃v',e=.returned v'∧Fresh w w' 5 1 v' n (Bs b):=by
 obtain⟨hl,ao,cap,rfl,hc,hno,hcells⟩:=hv
 cases ao with
 | none=>
  obtain⟨rfl,rfl⟩:=hno rfl
  have:b=[]:=List.eq_nil_of_length_eq_zero (by simpa[Bs] using hl)
  subst this
  refine (Tryz.bytes_Clone_nil 0 0 w).mono fun e w' ⟨h1,h2⟩=>?_
  subst h2
  exact⟨_,h1,Fresh.nil _ _ _⟩
 | some a=>
  have hbl:b.length=n:=by rw[Bs_length] at hl;omega
  refine (Tryz.bytes_Clone_at a n cap (b.map fun c=>(c.toNat:Int)) w (by simpa using hbl) hn (fun i hi=>?_)).mono fun e w' ⟨v',h1,h2,h3,h4⟩=>?_
  ·rw[hcells a rfl i _ (Bs_get b i (by omega))]
   simp[List.getD_eq_getElem?_getD,show i<b.length by omega]
  ·refine⟨v',h1,Fresh.of_owns ?_ h4⟩
   have:(b.map fun c=>(c.toNat:Int)).map (Value.int .u8)=Bs b:=by simp[Bs,Bc]
   rw[this] at h2
   exact h2
set_option maxRecDepth 100000 in
theorem bigI (w:World) (n wd:Nat) (c:Int) (hc:c=(n:Nat)) (h1:1≤wd) (h6:wd≤6) (hn:n<2^(8 * wd)):
  Calls Tryz.prog 191 #[.int .i64 c,.int .i64 wd] w fun e w'=>∃g,e=.returned (.tuple #[.slice (some ⟨g,0,none⟩) wd wd,.int .i64 0])∧Own w' 5 1 (.slice (some ⟨g,0,none⟩) wd wd) wd (Bs (beB n wd))∧Chg [] w w'∧w.heap.size≤g:=by
 subst hc
 exact big_ok w n wd h1 h6 hn sl_u8
set_option maxRecDepth 100000 in
theorem padded_any (w:World) (v:Value) (n:Nat) (b:List UInt8) (hv:Sees w 1 v n (Bs b)) (hn:n≤1000000):
  Calls Tryz.prog 189 #[v] w fun e w'=>∃v',e=.returned v'∧Fresh w w' 5 1 v' (pad b).length (Bs (pad b)):=by
 have hbl:b.length=n:=by have:=hv.len;rw[Bs_length] at this;omega
 have hpl:=pad_length b
 have hpe:pad b=b++[0x80]++List.replicate (zeros n) 0++List.replicate 2 0++beB (8 * n) 6:=by
  unfold pad
  rw[be8 _ (by omega),hbl]
  simp
 rw[hbl] at hpl
 have HPL:=zH hpl
 have HPE:=zH hpe
 have HBL:=zH hbl
 clear hpl hpe hbl
 obtain⟨ao,cap,rfl,hcap,hnil⟩:=hv.shape
 have HNIL:=zH hnil;clear hnil
 have HZ:=zH (zeros_not n)
 have HZD:=zH (zeros_done n)
 have hzl:=zeros_lt n
 generalize zeros n=Z at *
 go_enter Tryz.func189,Tryz.ntmps189
 go_wp2_with fail
 have h48:8 * n<2^(8 * 6):=by
  have:(2:Nat)^(8 * 6)=281474976710656:=by decide
  omega
 refine (bigI w (8 * n) 6 _ (by omega) (by omega) (by omega) h48).mono ?_
 rintro e w1 ⟨gl,rfl,hol,hc1,hgl⟩
 clear h48
 go_wp2_with fail
 refine (shaclone_any w1 _ n b (hv.chg0 hc1) (by omega)).mono ?_
 rintro e w2 ⟨vc,rfl,hfc⟩
 go_wp2_with (at_builtin;refine wpList_appF (w0:=w1) rfl _ _ 36 rfl sl_u8 (by exact hfc.to ((Chg.refl [] w2).alloc (.cells #[.int .u8 128] 5))) rfl (Sees.row (cs:=#[.int .u8 128]) (by exact Blk.new w2 _ 5) (m:=1) rfl) rfl (by simp[Value.oneCell']) (by omega) (by omega) ?_;intro v3 w3 hF3 c3)
 have hF3':Fresh w1 w3 5 1 v3 (n+1+0) (Bs (b++[128]++List.replicate 0 0)):=by
  simpa[Bs,Bc] using hF3
 clear hF3 c3 hfc
 go_loopg [5] Z (fun k vo wr=>∃(j m:Nat),j+k=Z∧m=n+1+j∧Fresh w1 wr 5 1 vo m (Bs (b++[128]++List.replicate j 0)))
 case atStart=>exact⟨0,_,by omega,rfl,hF3'⟩
 case round=>
  clear hF3'
  obtain⟨j,m,hjk,hm,hf⟩:=hrel
  obtain⟨g,capo,hvo,hcapo,-,-⟩:=hf.own.pos (by omega)
  subst hvo
  have hmb:1≤m∧m≤2000000:=by omega
  obtain⟨hm1,hm2⟩:=hmb
  by_cases hlt:j<Z
  ·have hne:=HZ.out j hlt
   have t1:(((m:Int) % 64) != 56)=true:=by simp;omega
   have HM:=zH hm;clear hm
   have HJ:=zH hjk;clear hjk hne
   go_wp2_with (at_builtin;refine wpList_appF (w0:=w1) rfl _ _ 36 rfl sl_u8 (by exact hf.to ((Chg.refl [] wr).alloc (.cells #[.int .u8 0] 5))) rfl (Sees.row (cs:=#[.int .u8 0]) (by exact Blk.new wr _ 5) (m:=1) rfl) rfl (by simp[Value.oneCell']) (by omega) (by omega) ?_;intro v4 w4 hF4 c4)
   go_roundg (gk - 1)
   case measure=>have:=HJ.out;omega
   case rel=>
    refine⟨j+1,m+1,by have:=HJ.out;omega,by have:=HM.out;omega,?_⟩
    have e2:Bs (b++[128]++List.replicate (j+1) 0)=Bs (b++[128]++List.replicate j 0)++[.int .u8 0]:=by
     rw[List.replicate_succ',←List.append_assoc,Bs_append (b++[128]++List.replicate j 0)]
     rfl
    rw[e2]
    exact hF4
  ·have hj:j=Z:=by omega
   subst hj
   have t1:(((m:Int) % 64) != 56)=false:=by have:=HZD.out;simp;omega
   have hol':=hol.sees.chg0 hf.chg
   have HM:=zH hm;clear hm hjk
   go_upto_region 6 with (at_builtin;refine wpList_appZ (w0:=w1) (k:=2) rfl _ _ 36 3 rfl sl_u8 rfl rfl Tryz.underlying3 hf rfl rfl (by rfl) (by omega) (by omega) (by omega) ?_;intro v5 w5 hF5 c5)
   have hol5:=hol.sees.chg0 hF5.chg
   go_wp2_with (at_builtin;refine wpList_appF (w0:=w1) rfl _ _ 36 rfl sl_u8 hF5 rfl hol5 rfl (Bs_one _) (by omega) (by omega) ?_;intro v6 w6 hF6 c6)
   go_ret
   refine⟨v6,rfl,?_⟩
   have hF7:=hF6.base hc1
   rw[HPL.out,HPE.out]
   have e3:Bs (b++[128]++List.replicate j 0++List.replicate 2 0++beB (8 * n) 6)=Bs (b++[128]++List.replicate j 0)++List.replicate 2 (Value.int IntKind.u8 0)++Bs (beB (8 * n) 6):=by
    rw[Bs_append,Bs_append (b++[128]++List.replicate j 0)]
    rfl
   rw[e3,show n+1+j+8=m+2+6 by have:=HM.out;omega]
   exact hF7
end Go.Proofs.YtlidiclfpklliaaGreatDoor
namespace Go.Aq.Sha
theorem foldB_snoc (f:St→Nat→St):∀(n a:Nat) (s:St),foldB f (n+1) a s=f (foldB f n a s) (a+64 * n)
 | 0,a,s=>rfl
 | n+1,a,s=>by rw[foldB,foldB_snoc f n (a+64),foldB,show a+64+64 * n=a+64 * (n+1) by omega]
theorem foldB_wf (f:St→Nat→St) (hf:∀s a,wfS (f s a)) (s:St) (h:wfS s):∀n,wfS (foldB f n 0 s)
 | 0=>h
 | n+1=>by rw[foldB_snoc];exact hf _ _
theorem blocks_snoc (m:List UInt8) (n a:Nat) (s:St):blocks m (n+1) a s=mix (blocks m n a s) m (a+64 * n):=by
 unfold blocks
 rw[foldB_snoc]
theorem blocks_wf (m:List UInt8) (s:St) (h:wfS s) (n:Nat):wfS (blocks m n 0 s):=foldB_wf _ (fun _ _=>mix_wf _ _ _) s h n
theorem blocks_zero (m:List UInt8) (a:Nat) (s:St):blocks m 0 a s=s:=by unfold blocks;rw[foldB]
theorem word_block (m:List UInt8) (a i:Nat) (h:i+4≤64):word ((m.drop a).take 64) i=word m (a+i):=by
 unfold word
 have e:∀j,j<64→((m.drop a).take 64).getD j 0=m.getD (a+j) 0:=fun j hj=>by
  simp only[List.getD_eq_getElem?_getD]
  rw[List.getElem?_take_of_lt hj,List.getElem?_drop]
 rw[e _ (by omega),e _ (by omega),e _ (by omega),e _ (by omega)]
 simp only[Nat.add_assoc]
theorem sched_block (m:List UInt8) (a:Nat):sched ((m.drop a).take 64) 0=sched m a:=by
 have e:first16 ((m.drop a).take 64) 0=first16 m a:=by
  unfold first16
  refine List.map_congr_left fun i hi=>?_
  simp only[List.mem_range] at hi
  rw[Nat.zero_add,word_block m a _ (by omega)]
 unfold sched
 rw[e]
theorem mix_block (s:St) (m:List UInt8) (a:Nat):mix s ((m.drop a).take 64) 0=mix s m a:=by
 unfold mix
 rw[sched_block]
def outL (s:St) (j:Nat):List UInt8:=((stL s).take j).flatMap fun x=>beB x 4
theorem outL_all (s:St):outL s 8=out s:=by
 simp only[outL,out,stL,List.take_succ_cons,List.take_zero,List.flatMap_cons,List.flatMap_nil,be_eq,List.append_nil,List.append_assoc]
theorem outL_succ (s:St) (j:Nat) (h:j<8):outL s (j+1)=outL s j++beB ((stL s).getD j 0) 4:=by
 unfold outL
 have hl:j<(stL s).length:=h
 rw[List.take_succ_eq_append_getElem hl,List.flatMap_append,List.getD_eq_getElem?_getD,List.getElem?_eq_getElem hl]
 simp
theorem out_length (s:St):(out s).length=32:=by simp[out,be_eq,beB_length]
theorem sum_length (b:List UInt8):(sum b).length=32:=out_length _
theorem st0_wf:wfS st0:=by unfold wfS st0;decide
theorem cellsK_low (j:Nat) (h:j<8):cellsK.toArray[j]?=some (.int .u32 ((stL st0).getD j 0:Nat)):=by
 match j,h with
 | 0,_=>rfl
 | 1,_=>rfl
 | 2,_=>rfl
 | 3,_=>rfl
 | 4,_=>rfl
 | 5,_=>rfl
 | 6,_=>rfl
 | 7,_=>rfl
end Go.Aq.Sha
namespace Go.Proofs.YtlidiclfpklliaaGreatDoor
open Go.RowKit Go.Aq Go.Aq.Sha
set_option maxRecDepth 100000 in
theorem sum_any (w:World) (v:Value) (n:Nat) (b:List UInt8) (hv:Sees w 1 v n (Bs b)) (hn:n≤1000000):
  Calls Tryz.prog 114 #[v] w fun e w'=>∃v',e=.returned v'∧Fresh w w' 5 1 v' 32 (Bs (sum b)):=by
 have hz8:∀w,(zeroValue 226).run Tryz.prog w=.ok (.agg (Ws z8).toArray) w:=fun _=>by kernel_rfl
 go_enter Tryz.func114,Tryz.ntmps114
 go_wp2_with fail
 refine (shaall_any w).mono ?_
 rintro e w1 ⟨C,rfl,hC,hc1,hCl⟩
 have hck:=fun j h=>(hC.cell j).trans (cellsK_low j h)
 have hwf0:=st0_wf
 have hsum:sum b=out (blocks (pad b) ((pad b).length / 64) 0 st0):=rfl
 generalize st0=s0 at *
 have m0:w1.cell? ⟨C,0,none⟩=some (.int .u32 (s0.a:Nat)):=hck 0 (by decide)
 have m1:w1.cell? ⟨C,1,none⟩=some (.int .u32 (s0.b:Nat)):=hck 1 (by decide)
 have m2:w1.cell? ⟨C,2,none⟩=some (.int .u32 (s0.c:Nat)):=hck 2 (by decide)
 have m3:w1.cell? ⟨C,3,none⟩=some (.int .u32 (s0.d:Nat)):=hck 3 (by decide)
 have m4:w1.cell? ⟨C,4,none⟩=some (.int .u32 (s0.e:Nat)):=hck 4 (by decide)
 have m5:w1.cell? ⟨C,5,none⟩=some (.int .u32 (s0.f:Nat)):=hck 5 (by decide)
 have m6:w1.cell? ⟨C,6,none⟩=some (.int .u32 (s0.g:Nat)):=hck 6 (by decide)
 have m7:w1.cell? ⟨C,7,none⟩=some (.int .u32 (s0.h:Nat)):=hck 7 (by decide)
 have HSUM:=zH hsum
 have HWF0:=zH hwf0
 clear hck hsum hwf0
 go_upto_region 3 with (refine wpList_stA rfl 226 _ _ rfl (cs:=(Ws (stL s0)).toArray) (Blk.new w1 (Ws z8).toArray 226) (arr8 _ rfl) rfl (Ws_one _) rfl rfl ?_;intro w2 hB2 hc2 hs2)
 have hcA:Chg [] w1 (w1.alloc (.cells (Ws z8).toArray 226)):=(Chg.refl [] w1).alloc _
 have hcB:Chg [] w w2:=hc1.trans (hcA.trans hc2 (by simp)) (by simp)
 have hC2:=(hC.chg0 hcA).chg hc2 (by have:=hC.lt;simp;omega)
 have hCS:w1.heap.size≠C:=by have:=hC.lt;omega
 have hSl:w.heap.size≤w1.heap.size:=hc1.size
 generalize w1.heap.size=S at *
 have HCS:=zB hCS hSl hCl
 clear hcA hc2 hs2 hC hc1 hz8 m0 m1 m2 m3 m4 m5 m6 m7 hCS hSl hCl w1
 go_wp2_with fail
 refine (padded_any w2 v n b (hv.chg0 hcB) hn).mono ?_
 rintro e w3 ⟨vp,rfl,hfp⟩
 have hpm:=pad_mod b
 have hpl:=pad_length b
 have hpb:(pad b).length≤2000000∧64≤(pad b).length:=by
  have:=zeros_lt b.length
  have hbl:b.length=n:=by have:=hv.len;rw[Bs_length] at this;omega
  omega
 obtain⟨hpb,hpb1⟩:=hpb
 have hC3:=hC2.chg0 hfp.chg
 have hB3:=hB2.chg0 hfp.chg
 have hcC:Chg [] w w3:=hcB.trans hfp.chg (by simp)
 have hSg:∀k∈vp.ownBlock.toList,k≠S:=fun k hk e=>by have:=hfp.new k hk;have:=hB2.lt;omega
 have hop:=hfp.own
 generalize pad b=m at *
 generalize hM:m.length=M at *
 obtain⟨g,cap,rfl,hcap,-,-⟩:=hop.pos (by omega)
 have hgS:g≠S:=hSg g (by simp[Value.ownBlock])
 have HGS:=zH hgS
 have HPM:=zH hpm
 have HM:=zH hM
 clear hSg hfp hC2 hB2 hcB hpl hpm hM hgS
 have hB3':Blk w3 S (Ws (stL (blocks m 0 0 s0))).toArray 226:=by rw[blocks_zero];exact hB3
 clear hB3
 go_wp2_with fail
 go_loopg [5] (M / 64) (fun k vp wr=>∃(i a len:Nat) (ao:Option Addr) (c:Nat),i+k=M / 64∧a=64 * i∧vp=.slice ao len c∧len+a=M∧(0<len→ao=some ⟨g,a,none⟩∧c=cap - a)∧Blk wr S (Ws (stL (blocks m i 0 s0))).toArray 226∧Chg [S] w3 wr)
 case atStart=>exact⟨0,0,M,_,cap,by omega,rfl,rfl,by omega,fun _=>⟨rfl,rfl⟩,hB3',Chg.refl _ _⟩
 case round=>
  clear hB3'
  obtain⟨i,a,len,ao,c,hik,hai,rfl,hla,hao,hb,hcr⟩:=hrel
  by_cases hlt:0<len
  ·obtain⟨rfl,rfl⟩:=hao hlt
   have h64:64≤len:=by have:=HPM.out;omega
   have hcl:a+len≤cap:=by omega
   have hs:Sees wr 1 (.slice (some ⟨g,a,none⟩) 64 (cap - a)) 64 (Bs ((m.drop a).take 64)):=by
    have hsee:=hop.sees.chg hcr (fun k hk=>by
     have:=eyes_own _ k hk
     simp[Value.ownBlock] at this
     simp
     rw[this];exact HGS.out)
    obtain⟨g',off',cap',he,-,hp⟩:=hsee.part a 64 (by omega) (by omega)
    simp only[Value.slice.injEq,Option.some.injEq,Addr.mk.injEq,true_and,and_true] at he
    obtain⟨⟨rfl,rfl⟩,rfl⟩:=he
    rw[Nat.zero_add] at hp
    rw[Bs_take,Bs_drop]
    exact hp
   have t1:decide ((0:Int)<(len:Int))=true:=by simp;omega
   have hmb:=mix_block (blocks m i 0 s0) m a
   have hsn:=blocks_snoc m i 0 s0
   rw[Nat.zero_add,←hai,←hmb] at hsn
   have hwf:=blocks_wf m s0 HWF0.out i
   have HSN:=zH hsn
   have HIK:=zA hik hai
   have HWF:=zH hwf
   have HLA:=zH hla
   clear hsn hmb hik hai hwf hla hao
   go_wp2_with fail
   refine (mix_any wr C S _ ((m.drop a).take 64) (blocks m i 0 s0) HWF.out (hC3.chg hcr (by simpa using Ne.symm HCS.out.1)) hb hs HCS.out.1 (by simp[eyes];exact fun h=>HGS.out h.symm)).mono ?_
   rintro e w4 ⟨rfl,hb4,hc4⟩
   rw[←HSN.out] at hb4
   have hcr4:=hcr.tr hc4
   clear hb hcr hs hc4
   by_cases hcap64:cap - a=64
   ·have hl64:len=64:=by have:=HLA.out;omega
    subst hl64
    rw[hcap64]
    go_wp2_with fail
    go_roundg (gk - 1)
    case measure=>have:=HIK.out.1;have:=HLA.out;have:=HIK.out.2;omega
    case rel=>exact⟨i+1,a+64,0,_,_,by have:=HIK.out;have:=HLA.out;omega,by have:=HIK.out;omega,rfl,by have:=HLA.out;omega,fun h=>by omega,hb4,hcr4⟩
   ·have h65:64<cap - a:=by omega
    have hsub:cap - a - 64=cap - (a+64):=by omega
    generalize hcc:cap - a=cc at *
    have HCC:=zH hcc
    have HSUB:=zH hsub
    clear hcc hsub
    have h64i:(64:Int)≤(len:Int):=by omega
    go_wp2_with fail
    go_roundg (gk - 1)
    case measure=>have:=HIK.out.1;have:=HLA.out;have:=HIK.out.2;omega
    case rel=>exact⟨i+1,a+64,len - 64,_,_,by have:=HIK.out;have:=HLA.out;omega,by have:=HIK.out;omega,rfl,by have:=HLA.out;omega,fun _=>⟨rfl,HSUB.out⟩,hb4,hcr4⟩
  ·have hl0:len=0:=by omega
   subst hl0
   have hi:i=M / 64:=by have:=HPM.out;omega
   have hcw:Chg [] w wr:=hcC.trans hcr (by have:=HCS.out;simp;omega)
   have hwf:=blocks_wf m s0 HWF0.out i
   have hsum:=HSUM.out
   rw[←hi] at hsum
   generalize blocks m i 0 s0=T at *
   rw[←outL_all] at hsum
   have HS:=zH hsum
   have HWF:=zH hwf
   clear hsum hwf hao hla hik hai HSUM hcr hcC hC3 hop HGS HPM HM HCS hi
   obtain⟨G,hG⟩:∃G,G=gk:=⟨_,rfl⟩
   obtain⟨wo,hwo⟩:∃wo:World,wo=wr:=⟨_,rfl⟩
   clear hG
   rw[←hwo] at hb hcw
   subst hwo
   go_wp2_with (with_reducible refine wpList_ldA rfl 226 _ rfl hb (arr8 _ rfl) rfl ?_)
   go_loopg [6,28] 8 (fun k vo vi wr=>∃(j:Nat),vi=.int .i64 j∧j+k=8∧Fresh wo wr 5 1 vo (4 * j) (Bs (outL T j)))
   case atStart=>exact⟨0,rfl,by omega,Fresh.nil _ _ _⟩
   case round=>
    clear hb
    obtain⟨j,rfl,hjk,hf⟩:=hrel
    by_cases hj:j<8
    ·have t8:decide ((j:Int)<8)=true:=by simp;omega
     have i8:(j:Int)<8:=by omega
     have hix:=idx8 T j hj
     have lx:=stL_lt T HWF.out j hj
     have hos:=outL_succ T j hj
     generalize (stL T).getD j 0=x at *
     have HOS:=zH hos
     have HJK:=zH hjk
     clear hos hjk
     go_wp2_with fail
     refine (bigI wr x 4 _ (by omega) (by omega) (by omega) (Nat.lt_of_lt_of_eq lx (by decide))).mono ?_
     rintro e w5 ⟨gg,rfl,ho5,hc5,hg5⟩
     have hf5:=hf.to hc5
     go_wp2_with (at_builtin;refine wpList_appF (w0:=wo) rfl _ _ 36 rfl sl_u8 hf5 rfl ho5.sees rfl (Bs_one _) (by omega) (by omega) ?_;intro v6 w6 hF6 c6)
     go_roundg (gk - 1)
     case measure=>have:=HJK.out;omega
     case rel=>
      refine⟨j+1,by go_num,by have:=HJK.out;omega,?_⟩
      rw[HOS.out,Bs_append]
      exact hF6
    ·have hj8:j=8:=by omega
     subst hj8
     go_wp2_with fail
     go_ret
     exact⟨_,rfl,by rw[HS.out];exact hf.base hcw⟩
end Go.Proofs.YtlidiclfpklliaaGreatDoor
