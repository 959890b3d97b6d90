/- DkM FzA FyT FyU -/
import Derived.Test.YtlbdklaggalgfaaGreatDoorG18
set_option linter.unusedSimpArgs false
set_option linter.unusedVariables false
set_option maxHeartbeats 4000000
namespace Go.Aq.Fy
theorem woD_mem {s:Nm} {L:List DF} {y:DF} (h:y∈woD s L):y∈L:=(List.mem_filter.1 h).1
theorem wiD_mem {x:DF} {L:List DF} {y:DF} (h:y∈wiD x L):y=x∨y∈L:=by
 unfold wiD at h;rcases List.mem_append.1 h with h | h
 ·exact .inr (woD_mem (List.takeWhile_subset _ h))
 ·rcases List.mem_cons.1 h with h | h
  ·exact .inl h
  ·exact .inr (woD_mem (List.dropWhile_subset _ h))
theorem pr_some {L:List DF} (hA:Asc (L.map DF.pr)) {j:Nat} {x:DF} {s:Nm} (h:L[j]?=some x) (hn:x.nm=s):lookK s (L.map DF.pr)=some x.dat:=by
 subst hn;exact look_of_mem hA (List.mem_map.2 ⟨x,List.mem_of_getElem? h,rfl⟩)
theorem look_no {α:Type} {s:Nm}:∀{l:List (Nm×α)},(∀p∈l,p.1≠s)→lookK s l=none
 | [],_=>rfl
 | (k,x)::l,h=>by
  unfold lookK;rw[if_neg (h (k,x) (.head _))];exact look_no fun p hp=>h p (.tail _ hp)
theorem pr_none {L:List DF} {s:Nm} (h:∀x∈L,x.nm≠s):lookK s (L.map DF.pr)=none:=
 look_no fun p hp=>by
  obtain⟨x,hx,rfl⟩:=List.mem_map.1 hp;exact h x hx
theorem ins_del_ne {α:Type} {s t:Nm} {b:α} {V:List (Nm×α)} (hA:Asc V) (h:s≠t):insK t b (delK s V)=delK s (insK t b V):=by
 refine asc_ext (asc_ins _ _ (asc_del _ hA)) (asc_del _ (asc_ins _ _ hA)) fun u=>?_
 by_cases h1:u=t
 ·subst h1;rw[look_ins_same,look_del_ne (fun e=>h e.symm),look_ins_same]
 ·rw[look_ins_ne h1];by_cases h2:u=s
  ·subst h2;rw[look_del_same,look_del_same]
  ·rw[look_del_ne h2,look_del_ne h2,look_ins_ne h1]
theorem ins_del_same {α:Type} {s:Nm} {b:α} {V:List (Nm×α)} (hA:Asc V) (h:lookK s V=some b):insK s b (delK s V)=V:=by
 refine asc_ext (asc_ins _ _ (asc_del _ hA)) hA fun u=>?_
 by_cases h1:u=s
 ·subst h1;rw[look_ins_same,h]
 ·rw[look_ins_ne h1,look_del_ne h1]
section
variable {V:View} {kd:Int} {nm tn:Nm} {d:Sec}
theorem oneV_nm (h:nameOk nm=false):(oneV V ⟨kd,nm,tn,d⟩).2≠0:=by unfold oneV;simp[h]
theorem oneV_tn (h:nameOk tn=false):(oneV V ⟨4,nm,tn,d⟩).2≠0:=by unfold oneV;simp[h]
theorem oneV_kd (h:kd<1∨5<kd):(oneV V ⟨kd,nm,tn,d⟩).2≠0:=by
 unfold oneV;have h1:kd≠1:=by omega
 have h2:kd≠2:=by omega
 have h3:kd≠3:=by omega
 have h4:kd≠4:=by omega
 have h5:kd≠5:=by omega
 simp only[h1,h2,h3,h4,h5,false_or,false_and,if_false,or_false,ne_eq,not_false_eq_true,if_true];split <;> simp
theorem oneV_c1 (h:lookK nm V≠none):(oneV V ⟨1,nm,tn,d⟩).2≠0:=by
 unfold oneV;have:(lookK nm V).isSome=true:=by cases hx:lookK nm V with | none=>exact absurd hx h | some b=>rfl
 simp only[this];split <;> simp
theorem oneV_no (hk:kd=3∨kd=4∨kd=5) (h:lookK nm V=none):(oneV V ⟨kd,nm,tn,d⟩).2≠0:=by
 unfold oneV renameV;rcases hk with rfl | rfl | rfl <;> simp only[h] <;> split <;> simp
theorem oneV_to (h:lookK tn V≠none) (hn:nm≠tn):(oneV V ⟨4,nm,tn,d⟩).2≠0:=by
 unfold oneV renameV;have:(lookK tn V).isSome=true:=by cases hx:lookK tn V with | none=>exact absurd hx h | some b=>rfl
 cases hx:lookK nm V <;> simp only[this,hn] <;> split <;> simp
theorem oneV_mv (hA:Asc V) {b:Sec} (h1:nameOk nm=true) (h2:nameOk tn=true) (h:lookK nm V=some b) (hn:nm=tn∨lookK tn V=none):oneV V ⟨4,nm,tn,d⟩=(insK tn b (delK nm V),0):=by
 unfold oneV renameV;by_cases e:nm=tn
 ·subst e;simp[h1,h,ins_del_same hA h]
 ·have h3:lookK tn V=none:=by rcases hn with hn | hn;(exact absurd hn e);exact hn
  simp[h1,h2,h,e,h3,ins_del_ne hA e]
theorem oneV_rm {b:Sec} (h1:nameOk nm=true) (h:lookK nm V=some b):oneV V ⟨5,nm,tn,d⟩=(delK nm V,0):=by
 unfold oneV;simp[h1,h]
def newB (V:View) (kd:Int) (nm:Nm) (d:Sec):Sec:=if kd=3 then (lookK nm V).getD []++d else d
theorem oneV_put (h1:nameOk nm=true) (hV:V.length<400) (hk:kd=1∧lookK nm V=none∨kd=2∨kd=3∧lookK nm V≠none):
  oneV V ⟨kd,nm,tn,d⟩=if 65535<(newB V kd nm d).length then (V,10) else (insK nm (newB V kd nm d) V,0):=by
 have ht:∀b,tellV V nm b=if 65535<b.length then (V,10) else (insK nm b V,0):=fun b=>by
  unfold tellV;have:¬400≤V.length:=by omega
  simp only[this,and_false,or_false]
 unfold oneV newB;rcases hk with ⟨rfl,h⟩ | rfl | ⟨rfl,h⟩
 ·simp[h1,h,ht]
 ·simp[h1,ht]
 ·cases hx:lookK nm V with
  | none=>exact absurd hx h
  | some b=>simp[h1,ht]
end
def DatR (B:Nat) (w:World) (L:List DF):Prop:=∀x∈L,x.dat.length≤65535∧Sees w 1 x.dv x.dat.length (Bs x.dat)∧∀k∈eyes x.dv,B≤k
theorem DatR.chg0 {B:Nat} {w w':World} {L:List DF} (h:DatR B w L) (c:Chg [] w w'):DatR B w' L:=fun x hx=>⟨(h x hx).1,(h x hx).2.1.chg0 c,(h x hx).2.2⟩
theorem DatR.wo {B:Nat} {w:World} {L:List DF} (h:DatR B w L) (s:Nm):DatR B w (woD s L):=fun x hx=>h x (woD_mem hx)
theorem DatR.wi {B:Nat} {w:World} {L:List DF} (h:DatR B w L) {y:DF} (hy:y.dat.length≤65535∧Sees w 1 y.dv y.dat.length (Bs y.dat)∧∀k∈eyes y.dv,B≤k):DatR B w (wiD y L):=fun x hx=>by
 rcases wiD_mem hx with rfl | hx
 ·exact hy
 ·exact h x hx
end Go.Aq.Fy
namespace Go.Proofs.YtlbdklaggalgfaaGreatDoor
open Go.RowKit Go.Aq Go.Aq.Fy Go.Maps
set_option maxRecDepth 100000 in
theorem dbytesF_ok (w:World) (f v2:Value) (nm:Nm) (d:Sec) (ao:Option Addr) (cap:Nat) (hd:Sees w 1 (.slice ao d.length cap) d.length (Bs d)) (hl:d.length≤1000000):
  Calls Tryz.prog 78 #[f,.agg #[.string (str nm),.int .i64 d.length,v2,.bool true,.slice ao d.length cap]] w fun e w'=>∃ao' cap',e=.returned (.tuple #[.slice ao' d.length cap',.int .i64 0])∧Fresh w w' 5 1 (.slice ao' d.length cap') d.length (Bs d):=by
 obtain⟨n,hn⟩:∃n,d.length=n:=⟨_,rfl⟩;have hbx:Blk (w.alloc (.cells #[.string (str nm),.int .i64 n,v2,.bool true,.slice ao n cap] 134)) w.heap.size #[.string (str nm),.int .i64 n,v2,.bool true,.slice ao n cap] 134:=Blk.new w _ _;have hcx:Chg [] w (w.alloc (.cells #[.string (str nm),.int .i64 n,v2,.bool true,.slice ao n cap] 134)):=(Chg.refl _ _).alloc _;have hcp:=copy_any (w.alloc (.cells #[.string (str nm),.int .i64 n,v2,.bool true,.slice ao n cap] 134)) (.slice ao n cap) n d (by rw[hn] at hd;exact hd.chg0 hcx) (by omega) sl_u8D;rw[hn];clear hd;go_enter Tryz.func78,Tryz.ntmps78;go_upto_region 1 with (fail);generalize w.alloc (.cells #[.string (str nm),.int .i64 n,v2,.bool true,.slice ao n cap] 134)=wa at *;have f3:wa.cell? ⟨w.heap.size,3,none⟩=some (.bool true):=hbx.cell 3;have f4:wa.cell? ⟨w.heap.size,4,none⟩=some (.slice ao n cap):=hbx.cell 4;clear hbx;go_wp2_with fail;refine hcp.mono ?_;rintro e w1 ⟨v1,rfl,h1,h2,h3⟩;obtain⟨a1,c1,rfl,-⟩:=h1.sees.shape;have HH:=zB h1 h2 h3;clear h1 h2 h3 hcp;go_wp2_with fail;go_ret2;exact⟨_,_,rfl,HH.out.1,hcx.nil HH.out.2.1,fun k hk=>Nat.le_trans hcx.size (HH.out.2.2 k hk)⟩
end Go.Proofs.YtlbdklaggalgfaaGreatDoor
namespace Go.Aq
theorem Fresh.back {w w1 w':World} {e:TypeId} {size:Nat} {v:Value} {n:Nat} {xs:List Value} (h:Fresh w1 w' e size v n xs) (c:Chg [] w w1):Fresh w w' e size v n xs:=
 ⟨h.own,c.nil h.chg,fun k hk=>by have:=h.new k hk;have:=c.size;omega⟩
end Go.Aq
namespace Go.Proofs.YtlbdklaggalgfaaGreatDoor
open Go.RowKit Go.Aq Go.Aq.Fy Go.Maps
def names (l:List Nm):List Value:=l.map fun s=>.string (str s)
theorem enc_names (l:List Nm):l.map encStr=names l:=by
 unfold names;refine List.map_congr_left fun s _=>?_
 rfl
theorem keys_sorted {l:List (Nm×Value)} (ha:Asc l) {ss:List Nm} (hp:ss.Perm (strKeys (datS l))):(ss.mergeSort fun x y=>decide (x≤y))=l.map (·.1)∧ss.length=l.length:=by
 rw[datS_keys] at hp;refine⟨sorted_asc ha hp,?_⟩;have:=hp.length_eq;simpa using this
set_option maxRecDepth 100000 in
theorem names_ok (w:World) (S:List Nat) (b:Nat) (L:Files) (h:FilesR w S b L) (hn:L.length≤1000000):
  Calls Tryz.prog 168 #[.map (some b)] w fun e w'=>∃v,e=.returned v∧Fresh w w' 9 1 v L.length (names (L.map (·.1))):=by
 obtain⟨l,hM,hT⟩:=h;have hsz:Maps.size (datS l)=L.length:=by rw[datS_size,hT.len]
 have hks:=hT.keys;have hasc:=hM.asc;have hlen:=hT.len;have hown:=hM.owns;clear hM hT;go_enter Tryz.func168,Tryz.ntmps168;go_wp2_with (first
  | (go_at_call 203;refine (callsIn_wide.1 (Tryz.maps_Keys_203 _ _)).mono ?_;rintro e w' ⟨rfl,rfl⟩)
  | (go_at_call 109;refine (callsIn_wide.1 (Tryz.slices_Sorted_keys_109_203 b l.length (datS l) heldR w hown (by rw[hsz];unfold maxLen;omega) (by rw[hsz];omega))).mono ?_;rintro e w' ⟨v,ss,rfl,hS,hrow,hnil,hb⟩))
 go_ret;obtain⟨e1,e2⟩:=keys_sorted hasc hS;rw[e1,e2,enc_names,←hks,←hlen] at hrow;exact⟨v,rfl,(Fresh.of_owns hrow hb).back ((Chg.refl _ _).alloc _)⟩
end Go.Proofs.YtlbdklaggalgfaaGreatDoor
namespace Go.Aq
open Go.RowKit
theorem Sees.take {w:World} {ao:Option Addr} {n cap at_:Nat} {b:List UInt8} (h:Sees w 1 (.slice ao n cap) n (Bs b)) (ha:at_≤n):Sees w 1 (.slice ao at_ cap) at_ (Bs (b.take at_)):=by
 obtain⟨h1,ao',cap',h2,h3,h4,h5⟩:=h;simp only[Value.slice.injEq,true_and] at h2;obtain⟨rfl,rfl⟩:=h2;have hbl:b.length=n:=by simpa[Bs] using h1
 refine⟨by simp[Bs];omega,ao,cap,rfl,by omega,fun e=>⟨by have:=(h4 e).1;omega,(h4 e).2⟩,fun ad had j u hu=>h5 ad had j u ?_⟩;have e:Bs (b.take at_)=(Bs b).take at_:=by simp[Bs,List.map_take]
 rw[e] at hu;rw[List.getElem?_take] at hu;split at hu;·exact hu
 ·cases hu
end Go.Aq
namespace Go.Proofs.YtlbdklaggalgfaaGreatDoor
open Go.RowKit Go.Aq Go.Aq.Fy Go.Maps
def upB (F:FsD) (ks:List Nat) (i:Nat):Sec:=(ks.take i).flatMap fun k=>F.disk.now (firstF F+k)
theorem upB_succ (F:FsD) (ks:List Nat) (i:Nat) (h:i<ks.length):upB F ks (i+1)=upB F ks i++F.disk.now (firstF F+ks[i]):=by
 unfold upB;rw[List.take_succ_eq_append_getElem h,List.flatMap_append];simp
theorem upB_all (F:FsD) (ks:List Nat):upB F ks ks.length=ks.flatMap fun k=>F.disk.now (firstF F+k):=by unfold upB;rw[List.take_length]
def ReadEnd (w:World) (b:Sec) (e:Ending) (w':World):Prop:=
 ∃v,e=.returned (.tuple #[v,.int .i64 0])∧Sees w' 1 v b.length (Bs b)∧(∀k∈eyes v,w.heap.size≤k)∧Chg [] w w'
set_option maxRecDepth 100000 in
theorem fread_ok (w:World) (Sd X:List Nat) (f d l bf:Nat) (F:FsD) (h:FsR w Sd X f d l bf F) (hd:F.disk.down=false) (s:Nm) (hs:s.length≤1048576) (x:FileD) (hx:lookK s F.files=some x) (hsz:x.size≤256 * x.blocks.length) (hbl:x.blocks.length≤4096) (hks:∀k∈x.blocks,k<allF F)
  (hsec:∀k,k<F.disk.n→(F.disk.now k).length=256):
  Calls Tryz.prog 22 #[.pointer (some ⟨f,0,none⟩),.string (str s)] w (ReadEnd w (bytesB F x)):=by
 obtain⟨⟨c0,-,-,c3⟩,-⟩:=Blk.c4b h.blk;obtain⟨n,ao,m,cap,⟨-,l2⟩,h1,h2,h3⟩:=h.files.look s hs;unfold hasF at l2;rw[hx] at l2 h1 h2 h3;simp only[Option.getD_some] at h1 h2 h3;simp only[Option.isSome_some] at l2;obtain⟨v,hv,hV,-⟩:=h3;have hv':v=.slice ao m cap:=by
  have:=congrArg (fun y=>match y with | Value.agg xs=>xs[1]? | _=>none) hv;simpa using this.symm
 subst hv';have HV:=zH hV;have HH:=zG h hd hsz hbl hks hsec h1 h2;clear h hd hx hsz hbl hks hsec h1 h2 hv hV;go_enter Tryz.func22,Tryz.ntmps22;go_wp2_with fail;obtain⟨w1,hw1⟩:∃w1,w.alloc (Obj.cells #[Value.int IntKind.i64 (n:Int),Value.slice ao m cap] 103)=w1:=⟨_,rfl⟩;obtain⟨K,hK⟩:∃K,w.heap.size=K:=⟨_,rfl⟩;have hbx:Blk w1 K #[.int .i64 n,.slice ao m cap] 103:=by rw[←hw1,←hK];exact Blk.new _ _ _
 have cw1:Chg [] w w1:=by rw[←hw1];exact (Chg.refl [] w).alloc _
 have hs1:w1.heap.size=K+1:=by rw[←hw1,←hK];exact Array.size_push _
 have F0:Fresh w1 (w1.alloc (.cells #[] 5)) 5 1 (.slice (some ⟨K+1,0,none⟩) 0 0) 0 []:=by
  refine⟨?_,(Chg.refl [] w1).alloc _,fun k hk=>?_⟩;·rw[←hs1];exact Own.made w1 _ 1
  ·simp[Value.ownBlock] at hk;omega
 rw[hw1,hK];have H1:=zC hbx cw1 hs1 hK;clear hbx cw1 hs1 hw1 hK l2 c3;go_loopg [8,28] m (fun k vb vi wr=>∃i:Nat,vi=.int .i64 i∧i+k=m∧Fresh w1 wr 5 1 vb (256 * i) (Bs (upB F x.blocks i)));case atStart=>exact⟨0,rfl,by omega,F0⟩
 case round=>
  obtain⟨i,rfl,hk,hF⟩:=hrel;have cr:Chg [] w wr:=H1.out.2.1.nil hF.chg;obtain⟨ab,cb,rfl,-⟩:=hF.shape;obtain⟨⟨z0,z1⟩,-⟩:=And.intro (And.intro ((H1.out.1.chg0 hF.chg).cell 0) ((H1.out.1.chg0 hF.chg).cell 1)) trivial;by_cases hi:i<m
  ·have hm0:0<m:=by omega
   have hib:i<x.blocks.length:=by have:=HH.out.2.2.2.2.2.2.2;omega
   have V1:=HV.out.chg0 cr;have e2:x.blocks.length=m:=HH.out.2.2.2.2.2.2.2.symm;rw[e2] at V1;obtain⟨g,off,cp,he,-,hc⟩:=V1.at1 hm0;cases he;have y:=hc i hi;have ey:(ints x.blocks)[i]?=some (.int .i64 (x.blocks[i]'hib:Nat)):=by simp[ints,hib]
   rw[ey] at y;have hkb:=HH.out.2.2.2.2.1 _ (List.getElem_mem hib);have hup:=upB_succ F x.blocks i hib;obtain⟨kb,hkbe⟩:∃kb,x.blocks[i]'hib=kb:=⟨_,rfl⟩;rw[hkbe] at y hkb hup;have t0:decide ((i:Int)<(m:Int))=true:=decide_eq_true (by omega);have t0':decide (i<m)=true:=decide_eq_true hi;have HI:=zE hk hF cr hkb hup hi;clear hk hF hc ey hkb hup hkbe hib e2 V1 hm0 z0 z1;have yf:=HI.out.2.2.1.cell_some c0 (by simp);go_upto_region 8 with (fail);refine wp_region_U [] (fun _=>false) (by kernel_rfl) ?_;have q0:Chg [] wr wr.drew:=(Chg.refl _ _).drew;obtain⟨W0,hW0⟩:∃W0,wr.drew=W0:=⟨_,rfl⟩;rw[hW0] at q0 ⊢;clear hW0;have C0:Chg [] W0 W0:=Chg.refl _ _;have yf':=q0.cell_some yf (by simp);clear yf y;have hf0:=first_ok W0 Sd X f d l bf F (HH.out.1.chg0 (HI.out.2.2.1.nil q0));have hsm:=HH.out.1.small;have hkl:firstF F+kb<F.disk.n:=by have h1:=HI.out.2.2.2.1;unfold allF at h1;omega
   have e1:IntKind.i64.wrap ((firstF F:Int)+(kb:Int))=((firstF F+kb:Nat):Int):=wIq (by unfold wrap64;omega);refine tU 0 (.pointer (some ⟨f,0,none⟩)) C0 (fun w4 c4=>?_) ?_;·go_simp
   refine yG ?_;refine tU 1 (.pointer (some ⟨f,0,none⟩)) C0 (fun w4 c4=>?_) ?_;·go_simp
   refine yG ?_;refine tU 2 (.pointer (some ⟨f,0,none⟩)) C0 (fun w4 c4=>?_) ?_;·go_simp
   refine yG ?_;refine tU 3 (.pointer (some ⟨d,0,none⟩)) C0 (fun w4 c4=>?_) ?_
   ·have z:=c4.cell_some yf' (by simp);go_simp
   refine yG ?_;refine tU 4 (.pointer (some ⟨f,0,none⟩)) C0 (fun w4 c4=>?_) ?_;·go_simp
   refine yG ?_;refine tU 6 (.int .i64 kb) C0 (fun w4 c4=>?_) ?_;·go_simp
   refine yG ?_;refine oU 5 ?_;go_simp;refine hf0.mono ?_;rintro e w2 ⟨rfl,nq,rfl⟩;have C2:Chg [] W0 (W0.drewN nq):=C0.drewN nq;refine⟨C2,?_⟩;refine yG ?_;generalize W0.drewN nq=W2 at *;clear hf0;refine tU 7 (.int .i64 ((firstF F+kb:Nat):Int)) C2 (fun w4 c4=>?_) ?_;·go_simp
   refine yG ?_;have hrd:=read_ok W2 Sd d F.disk (firstF F+kb) (HH.out.1.disk.chg ((HI.out.2.2.1.nil q0).nil C2)) HH.out.2.1 hkl;refine oU 8 ?_;go_simp;refine hrd.mono ?_;rintro e w3 ⟨v3,rfl,hF3⟩;have C3:Chg [] W0 w3:=C2.nil hF3.chg;refine⟨C3,?_⟩;refine yG ?_;obtain⟨a3,q3,rfl,-⟩:=hF3.shape;clear hrd e1;refine tU 9 (.tuple #[.slice a3 256 q3,.int .i64 0]) C3 (fun w4 c4=>?_) ?_;·go_simp
   refine yG ?_;refine tU 10 (.slice a3 256 q3) C3 (fun w4 c4=>?_) ?_;·go_simp
   refine yG ?_;refine tU 11 (.int .i64 0) C3 (fun w4 c4=>?_) ?_;·go_simp
   refine yG ?_;refine tU 12 (.slice a3 256 q3) C3 (fun w4 c4=>?_) ?_;·go_simp
   refine yG ?_;refine tU 13 (.int .i64 0) C3 (fun w4 c4=>?_) ?_;·go_simp
   refine yG ?_;refine wpAnyU_done (by kernel_rfl) ?_ _;have cw:Chg [] wr w3:=q0.nil C3;have hF':=HI.out.2.1.to cw;have hsz:256 * i≤1048576:=by have h1:=HI.out.2.2.2.2.2;have h2:=HH.out.2.2.2.1;have h3:=HH.out.2.2.2.2.2.2.2;omega
   have HX:=zB cw hF3 hkl;have hs3:Sees w3 1 (.slice a3 256 q3) 256 (Bs (F.disk.now (firstF F+kb))):=hF3.own.sees;have hsc:=HH.out.2.2.2.2.2.1 _ hkl;clear cw hF3 hkl q0 C0 yf' hsm C2 C3;go_wp2_with fail;refine wp_app _ _ 38 rfl sl_u8y hF'.own rfl hs3 rfl (Bs_one _) (by show (256 * i+256) * 1≤_;omega) (by omega) ?_;intro v' W' ho4 hc4 hn4;have hF4:=hF'.app ho4 hc4 hn4;clear ho4 hc4 hn4 hF';obtain⟨a4,q4,rfl,-⟩:=hF4.shape;have e5:wrap64 ((i:Int)+1)=((i+1:Nat):Int):=by unfold wrap64;have h1:=HI.out.2.2.2.2.2;have h2:=HH.out.2.2.2.1;have h3:=HH.out.2.2.2.2.2.2.2;omega
   have e5w:=wIq e5;have HF4:=zH hF4;clear hF4 hs3 hsc hsz;go_wp2_with fail;go_roundg (gk - 1);case measure=>have:=HI.out.1;have:=HI.out.2.2.2.2.2;omega
   case rel=>
    refine⟨i+1,by simp,by have:=HI.out.1;have:=HI.out.2.2.2.2.2;omega,?_⟩;have h1:=HF4.out;rw[←Bs_append,←HI.out.2.2.2.2.1] at h1;exact h1
  ·have him:i=m:=by omega
   subst him;have e2:=HH.out.2.2.2.2.2.2.2;have e3:=HH.out.2.2.2.2.2.2.1;have hle:x.size≤256 * i:=by have h1:=HH.out.2.2.1;omega
   have t0:decide ((i:Int)<(i:Int))=false:=decide_eq_false (by omega);have hcb:256 * i≤cb:=by have:=hF.shape;obtain⟨_,_,h1,h2⟩:=this;cases h1;exact h2
   have hn:(n:Int)≤(256 * i:Nat):=by omega
   have hncb:n≤cb:=by omega
   have hncb':(n:Int)≤(cb:Int):=by omega
   have HI:=zD hF cr e2 e3 hle;clear hF cr hk e2 e3 hle c0;go_wp2_with fail;go_ret2;have hF:=HI.out.1;have hlen:(upB F x.blocks i).length=256 * i:=by have:=hF.own.len;rw[Bs_length] at this;omega
   have hS:=hF.own.sees.take (b:=upB F x.blocks i) (at_:=n) (by have h1:=HI.out.2.2.2.1;have h2:=HI.out.2.2.2.2;omega);have hb:bytesB F x=(upB F x.blocks i).take n:=by
    rw[HI.out.2.2.2.1,HI.out.2.2.1,upB_all];rfl
   have hbl:(bytesB F x).length=n:=by rw[hb,List.length_take,hlen];have h1:=HI.out.2.2.2.1;have h2:=HI.out.2.2.2.2;omega
   unfold ReadEnd;rw[hbl,hb];refine⟨.slice ab n cb,rfl,hS,fun k hk=>?_,HI.out.2.1⟩;have h0:k∈(Value.slice ab (256 * i) cb).ownBlock.toList:=by
    have hk':k∈eyes (.slice ab n cb):=hk;clear hk;cases ab with
    | none=>simp[eyes] at hk'
    | some a=>have h3:=eyes_own _ k hk';simpa[Value.ownBlock] using h3
   have h1:=hF.new k h0;have h2:=H1.out.2.1.size;omega
set_option maxRecDepth 100000 in
theorem rename_ok (w:World) (S:List Nat) (g f bl br:Nat) (W:WorkD) (h:WorkR w S g f bl br W) (hin:In w S) (kind:Int) (s t:Nm) (hs:s.length≤1048576) (ht:t.length≤1048576) (v:Value) (hv:v.oneCell'=true) (hl:W.files.length≤1000) (hr:W.fresh.length≤1000):
  Calls Tryz.prog 107 #[.pointer (some ⟨g,0,none⟩),.agg #[.int .i64 kind,.string (str s),.string (str t),v]] w (TellEnd w S g f bl br (renameW W s t)):=by
 have hh:=fun w' (c:Chg [] w w')=>has_ok w' S g f bl br W (h.chg0 c) s hs
 have ht':=fun w' (c:Chg [] w w')=>has_ok w' S g f bl br W (h.chg0 c) t ht
 have HH:=zE h hl hr hs ht hin;clear h hl hr hs ht hin;go_enter Tryz.func107,Tryz.ntmps107;go_wp2_with fail;obtain⟨w1,hw1⟩:∃w1,w.alloc (Obj.cells #[.int .i64 kind,.string (str s),.string (str t),v] 60)=w1:=⟨_,rfl⟩;obtain⟨K,hK⟩:∃K,w.heap.size=K:=⟨_,rfl⟩;have hbx:Blk w1 K #[.int .i64 kind,.string (str s),.string (str t),v] 60:=by rw[←hw1,←hK];exact Blk.new _ _ _
 have c1:Chg [] w w1:=by rw[←hw1];exact (Chg.refl [] w).alloc _
 rw[hw1,hK];clear hw1;refine (hh w1 c1).mono ?_;rintro e w2 ⟨rfl,c2⟩;have H2:=zB hK (hbx.chg0 c2) (c1.nil c2);clear hbx c1 c2 hK hh;obtain⟨⟨-,b1,b2,-⟩,-⟩:=Blk.c4b H2.out.2.1;cases hq:hasF W.files s with
 | false=>
  have HQ:=zH hq;clear hq;go_wp2_with fail;go_ret;unfold TellEnd;have e1:renameW W s t=(W,6):=by
   unfold renameW;have:=HQ.out;unfold hasF at this;cases hx:lookK s W.files with
   | none=>rfl
   | some x=>rw[hx] at this;cases this
  rw[e1];exact⟨rfl,HH.out.1.chg0 H2.out.2.2,H2.out.2.2.mono (by simp)⟩
 | true=>
  obtain⟨x,hx⟩:∃x,lookK s W.files=some x:=Option.isSome_iff_exists.1 hq;have HX:=zA hq hx;clear hq hx;by_cases hst:s=t
  ·have e0:((str s).toList==(str t).toList)=true:=by rw[str_eq];exact decide_eq_true hst
   have HS:=zH hst;clear hst;go_wp2_with fail;go_ret;unfold TellEnd;have e1:renameW W s t=(W,0):=by unfold renameW;rw[HX.out.2];simp[HS.out]
   rw[e1];exact⟨rfl,HH.out.1.chg0 H2.out.2.2,H2.out.2.2.mono (by simp)⟩
  ·have e0:((str s).toList==(str t).toList)=false:=by rw[str_eq];exact decide_eq_false hst
   have HS:=zH hst;clear hst;go_wp2_with fail;refine (ht' w2 H2.out.2.2).mono ?_;rintro e w3 ⟨rfl,c3⟩;have H3:=zB H2.out.1 (H2.out.2.1.chg0 c3) (H2.out.2.2.nil c3);clear H2 b1 b2 ht';obtain⟨⟨-,b1,b2,-⟩,-⟩:=Blk.c4b H3.out.2.1;cases hq:hasF W.files t with
   | true=>
    have HQ:=zH hq;clear hq;go_wp2_with fail;go_ret;unfold TellEnd;have e1:renameW W s t=(W,7):=by unfold renameW;rw[HX.out.2];simp[HS.out,HQ.out]
    rw[e1];exact⟨rfl,HH.out.1.chg0 H3.out.2.2,H3.out.2.2.mono (by simp)⟩
   | false=>
    have HQ:=zH hq;clear hq e0;go_upto_region 7 with (fail);have q0:Chg [] w3 w3.drew:=(Chg.refl _ _).drew;obtain⟨W0,hW0⟩:∃W0,w3.drew=W0:=⟨_,rfl⟩;refine wp_region_U [] (fun i=>decide (13≤i)) (by kernel_rfl) ?_;rw[hW0] at q0 ⊢;clear hW0;have C0:Chg [] W0 W0:=Chg.refl _ _;have R0:=HH.out.1.chg0 (H3.out.2.2.nil q0);obtain⟨⟨-,y1,-⟩,-⟩:=R0.blk.c3b;have B1:=q0.cell_some b1 (by simp);have B2:=q0.cell_some b2 (by simp);obtain⟨lm,hM,hT⟩:=R0.files;obtain⟨y,hy,hyV⟩:∃y,lookK s lm=some y∧FileV W0 (bl::br::S) x y:=by
     rcases hT.look s with ⟨e1,-⟩ | ⟨x',y,e1,e2,hv⟩
     ·rw[HX.out.2] at e1;cases e1
     ·rw[HX.out.2] at e1;cases e1;exact⟨y,e2,hv⟩
    clear hT b1 b2;refine tU 0 (.pointer (some ⟨g,0,none⟩)) C0 (fun w4 c4=>?_) ?_;·go_simp
    refine yG ?_;refine tU 1 (.pointer (some ⟨g,0,none⟩)) C0 (fun w4 c4=>?_) ?_;·go_simp
    refine yG ?_;refine tU 2 (.pointer (some ⟨g,1,none⟩)) C0 (fun w4 c4=>?_) ?_;·go_simp
    refine yG ?_;refine tU 3 (.map (some bl)) C0 (fun w4 c4=>?_) ?_
    ·have z:=c4.cell_some y1 (by simp);go_simp
    refine yG ?_;refine tU 4 (.pointer (some ⟨K,2,none⟩)) C0 (fun w4 c4=>?_) ?_;·go_simp
    refine yG ?_;refine tU 5 (.string (str t)) C0 (fun w4 c4=>?_) ?_
    ·have z:=c4.cell_some B2 (by simp);go_simp
    refine yG ?_;refine tU 6 (.pointer (some ⟨g,0,none⟩)) C0 (fun w4 c4=>?_) ?_;·go_simp
    refine yG ?_;refine tU 7 (.pointer (some ⟨g,0,none⟩)) C0 (fun w4 c4=>?_) ?_;·go_simp
    refine yG ?_;refine tU 8 (.pointer (some ⟨g,1,none⟩)) C0 (fun w4 c4=>?_) ?_;·go_simp
    refine yG ?_;refine tU 9 (.map (some bl)) C0 (fun w4 c4=>?_) ?_
    ·have z:=c4.cell_some y1 (by simp);go_simp
    refine yG ?_;refine tU 10 (.pointer (some ⟨K,1,none⟩)) C0 (fun w4 c4=>?_) ?_;·go_simp
    refine yG ?_;refine tU 11 (.string (str s)) C0 (fun w4 c4=>?_) ?_
    ·have z:=c4.cell_some B1 (by simp);go_simp
    refine yG ?_;refine tU 12 (y) C0 (fun w4 c4=>?_) ?_
    ·have z:=((hM.chg0 c4).look keyS Tryz.underlying93 (zeroFile w4) s HH.out.2.2.2.1).1;rw[hy] at z;simp only[Option.getD_some] at z;go_simp
    refine yG ?_;obtain⟨w5,r5,m5,k5⟩:=R0.files.put t HH.out.2.2.2.2.1 (by simp) (by have:=HH.out.2.1;omega) hyV;have R5:=R0.putL k5 m5;refine wpAnyU_last 13 rfl (by kernel_rfl) (by rfl) (by rfl) ?_;refine wp_upd _ _ _ 93 rfl rfl rfl rfl r5 ?_;refine yG ?_;refine wpAny_fin (by kernel_rfl) ?_ _;have hKb:K∉[bl]:=by have h1:=HH.out.1.files.lt;have h2:=H3.out.1;simp;omega
    have b1:=k5.cell_some B1 hKb;have b2:=k5.cell_some B2 hKb;have H5:=zA R5 (show Chg [bl] w w5 from ((H3.out.2.2.nil q0).toS.tr k5));clear q0 C0 R0 y1 B1 B2 hM hy hyV r5 m5 k5 R5 hKb;go_upto_region 8 with (fail);have q0:Chg [] w5 w5.drew:=(Chg.refl _ _).drew;obtain⟨W1,hW1⟩:∃W1,w5.drew=W1:=⟨_,rfl⟩;refine wp_region_U [] (fun _=>false) (by kernel_rfl) ?_;rw[hW1] at q0 ⊢;clear hW1;have C0:Chg [] W1 W1:=Chg.refl _ _;have R0:=H5.out.1.chg0 q0;obtain⟨⟨-,-,y1⟩,-⟩:=R0.blk.c3b;have B1:=q0.cell_some b1 (by simp);have B2:=q0.cell_some b2 (by simp);obtain⟨lr,hM,hT⟩:=R0.fresh;obtain⟨vb,hvb⟩:∃vb,(lookK s lr).getD (.slice none 0 0)=vb:=⟨_,rfl⟩;obtain⟨ok,hok⟩:∃ok,(lookK s lr).isSome=ok:=⟨_,rfl⟩;have hlk:=fun (w4:World) (c4:Chg [] W1 w4)=>((hM.chg0 c4).look keyS Tryz.underlying104 (zeroB8 w4) s HH.out.2.2.2.1).2
    rw[hvb,hok] at hlk;have hTw:=hT.look s;have HT:=zB hTw hvb hok;clear hT hM b1 b2 hTw hvb hok;refine tU 0 (.pointer (some ⟨g,0,none⟩)) C0 (fun w4 c4=>?_) ?_;·go_simp
    refine yG ?_;refine tU 1 (.pointer (some ⟨g,0,none⟩)) C0 (fun w4 c4=>?_) ?_;·go_simp
    refine yG ?_;refine tU 2 (.pointer (some ⟨g,2,none⟩)) C0 (fun w4 c4=>?_) ?_;·go_simp
    refine yG ?_;refine tU 3 (.map (some br)) C0 (fun w4 c4=>?_) ?_
    ·have z:=c4.cell_some y1 (by simp);go_simp
    refine yG ?_;refine tU 4 (.pointer (some ⟨K,1,none⟩)) C0 (fun w4 c4=>?_) ?_;·go_simp
    refine yG ?_;refine tU 5 (.string (str s)) C0 (fun w4 c4=>?_) ?_
    ·have z:=c4.cell_some B1 (by simp);go_simp
    refine yG ?_;refine tU 6 (.tuple #[vb,.bool ok]) C0 (fun w4 c4=>?_) ?_
    ·have z:=hlk w4 c4;go_simp
    refine yG ?_;refine tU 7 (.tuple #[vb,.bool ok]) C0 (fun w4 c4=>?_) ?_;·go_simp
    refine yG ?_;refine tU 8 (vb) C0 (fun w4 c4=>?_) ?_;·go_simp
    refine yG ?_;refine tU 9 (.bool ok) C0 (fun w4 c4=>?_) ?_;·go_simp
    refine yG ?_;refine tU 10 (vb) C0 (fun w4 c4=>?_) ?_;·go_simp
    refine yG ?_;refine tU 11 (.bool ok) C0 (fun w4 c4=>?_) ?_;·go_simp
    refine yG ?_;refine wpAnyU_done (by kernel_rfl) ?_ _;have H6:=zA R0 (H5.out.2.nil q0);clear R0 y1 C0 hlk;cases ok with
    | false=>
     have e6:lookK s W.fresh=none:=by
      rcases HT.out.1 with ⟨e1,-⟩ | ⟨b,y,e1,e2,-⟩
      ·exact e1
      ·have:=HT.out.2.2;rw[e2] at this;cases this
     have hg:=gone_ok W1 S g f bl br _ H6.out.1 s HH.out.2.2.2.1;have E6:=zH e6;clear e6;go_wp2_with fail;refine hg.mono ?_;rintro e w7 ⟨rfl,hR7,hC7⟩;go_wp2_with fail;go_ret;unfold TellEnd;have e1:renameW W s t=(goneW ⟨insK t x W.files,W.fresh⟩ s,0):=by
      have h1:=HQ.out;unfold renameW;rw[HX.out.2];simp[HS.out,h1,E6.out]
     rw[e1];exact⟨rfl,hR7,(H6.out.2.mono (fun k hk=>.inl (by simp at hk;simp[hk]))).tr hC7⟩
    | true=>
     obtain⟨b,e6,hbv⟩:∃b,lookK s W.fresh=some b∧BytesV W1 (bl::br::S) b vb:=by
      rcases HT.out.1 with ⟨-,e2⟩ | ⟨b,y,e1,e2,h3⟩
      ·have:=HT.out.2.2;rw[e2] at this;cases this
      ·have:=HT.out.2.1;rw[e2] at this;exact⟨b,e1,by rw[←this];exact h3⟩
     obtain⟨a6,q6,rfl,-⟩:=hbv.1.shape;have E6:=zH e6;clear e6;have HB:=zH hbv;clear hbv HT;go_upto_region 10 with (fail);have q1:Chg [] W1 W1.drew:=(Chg.refl _ _).drew;obtain⟨W2,hW2⟩:∃W2,W1.drew=W2:=⟨_,rfl⟩;refine wp_region_U [] (fun i=>decide (7≤i)) (by kernel_rfl) ?_;rw[hW2] at q1 ⊢;clear hW2;have C0:Chg [] W2 W2:=Chg.refl _ _;have R2:=H6.out.1.chg0 q1;obtain⟨⟨-,-,y1⟩,-⟩:=R2.blk.c3b;have B3:=q1.cell_some B2 (by simp);clear B2;refine tU 0 (.pointer (some ⟨g,0,none⟩)) C0 (fun w4 c4=>?_) ?_;·go_simp
     refine yG ?_;refine tU 1 (.pointer (some ⟨g,0,none⟩)) C0 (fun w4 c4=>?_) ?_;·go_simp
     refine yG ?_;refine tU 2 (.pointer (some ⟨g,2,none⟩)) C0 (fun w4 c4=>?_) ?_;·go_simp
     refine yG ?_;refine tU 3 (.map (some br)) C0 (fun w4 c4=>?_) ?_
     ·have z:=c4.cell_some y1 (by simp);go_simp
     refine yG ?_;refine tU 4 (.pointer (some ⟨K,2,none⟩)) C0 (fun w4 c4=>?_) ?_;·go_simp
     refine yG ?_;refine tU 5 (.string (str t)) C0 (fun w4 c4=>?_) ?_
     ·have z:=c4.cell_some B3 (by simp);go_simp
     refine yG ?_;refine tU 6 (.slice a6 b.length q6) C0 (fun w4 c4=>?_) ?_;·go_simp
     refine yG ?_;obtain⟨w8,r8,m8,k8⟩:=R2.fresh.put t HH.out.2.2.2.2.1 (by simp) (by have:=HH.out.2.2.1;show W.fresh.length≤_;omega) (HB.out.chg q1 (by simp));have R8:=R2.putR k8 m8;refine wpAnyU_last 7 rfl (by kernel_rfl) (by rfl) (by rfl) ?_;refine wp_upd _ _ _ 104 rfl rfl rfl rfl r8 ?_;refine yG ?_;refine wpAny_fin (by kernel_rfl) ?_ _;have hC8:Chg [bl,br] w w8:=((H6.out.2.nil q1).mono (fun k hk=>.inl (by simp at hk;simp[hk]))).tr (k8.mono (fun k hk=>.inl (by simp at hk;simp[hk])));have hg:=gone_ok w8 S g f bl br _ R8 s HH.out.2.2.2.1;have hKr:K∉[br]:=by have h1:=HH.out.1.fresh.lt;have h2:=H3.out.1;simp;omega
     have B4:=k8.cell_some (q1.cell_some B1 (by simp)) hKr;clear R8 R2 r8 m8 k8 q1 y1 B3 C0 hKr B1;go_wp2_with fail;refine hg.mono ?_;rintro e w7 ⟨rfl,hR7,hC7⟩;go_wp2_with fail;go_ret;unfold TellEnd;have e1:renameW W s t=(goneW ⟨insK t x W.files,insK t b W.fresh⟩ s,0):=by
      have h1:=HQ.out;unfold renameW;rw[HX.out.2];simp[HS.out,h1,E6.out]
     rw[e1];exact⟨rfl,hR7,hC8.tr hC7⟩
end Go.Proofs.YtlbdklaggalgfaaGreatDoor
