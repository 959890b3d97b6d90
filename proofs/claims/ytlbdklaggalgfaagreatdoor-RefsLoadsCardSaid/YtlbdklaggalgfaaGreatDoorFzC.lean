/- Files in memory: new blocks for what was told anew. No statement of the seat is proved here. -/
import Derived.Test.YtlbdklaggalgfaaGreatDoorG21
set_option linter.unusedSimpArgs false
set_option linter.unusedVariables false
set_option maxHeartbeats 8000000
namespace Go.Aq
structure OwnN (w0 w:World) (e:TypeId) (size:Nat) (v:Value) (n:Nat) (xs:List Value):Prop where
 own:Own w e size v n xs
 new:∀k∈v.ownBlock.toList,w0.heap.size≤k
theorem OwnN.nil (w0 w:World) (e:TypeId) (size:Nat):OwnN w0 w e size (.slice none 0 0) 0 []:=⟨Own.nil w e size,by simp[Value.ownBlock]⟩
theorem OwnN.to {w0 w w':World} {e:TypeId} {size:Nat} {v:Value} {n:Nat} {xs:List Value} (h:OwnN w0 w e size v n xs) (c:Chg [] w w'):OwnN w0 w' e size v n xs:=⟨h.own.chg c (fun _ _=>by simp),h.new⟩
theorem OwnN.chg {w0 w w':World} {e:TypeId} {size:Nat} {v:Value} {n:Nat} {xs:List Value} {T:List Nat} (h:OwnN w0 w e size v n xs) (c:Chg T w w') (hT:Disj v.ownBlock.toList T):OwnN w0 w' e size v n xs:=⟨h.own.chg c hT,h.new⟩
theorem OwnN.app {w0 w w':World} {e:TypeId} {size:Nat} {v v':Value} {n n':Nat} {xs xs':List Value} (h:OwnN w0 w e size v n xs) (ho:Own w' e size v' n' xs') (hn:∀k∈v'.ownBlock.toList,k∈v.ownBlock.toList∨w.heap.size≤k) (hs:w0.heap.size≤w.heap.size):OwnN w0 w' e size v' n' xs':=
 ⟨ho,fun k hk=>(hn k hk).elim (h.new k) (Nat.le_trans hs)⟩
theorem OwnN.shape {w0 w:World} {e:TypeId} {size:Nat} {v:Value} {n:Nat} {xs:List Value} (h:OwnN w0 w e size v n xs):∃ao cap,v=.slice ao n cap∧n≤cap:=by
 obtain⟨ao,cap,h1,h2,-⟩:=h.own.sees.shape;exact⟨ao,cap,h1,h2⟩
theorem OwnN.back {w0 w1 w:World} {e:TypeId} {size:Nat} {v:Value} {n:Nat} {xs:List Value} (h:OwnN w1 w e size v n xs) (hs:w0.heap.size≤w1.heap.size):OwnN w0 w e size v n xs:=⟨h.own,fun k hk=>Nat.le_trans hs (h.new k hk)⟩
end Go.Aq
namespace Go.Aq.Fy
open Go.Aq
theorem needW_take (fr:List (Nm×Sec)) (i:Nat) (h:i<fr.length):needW (fr.take (i+1))=needW (fr.take i)+cnt (fr[i]'h).2.length:=by
 unfold needW;rw[List.take_succ_eq_append_getElem h,List.map_append,List.sum_append];simp
theorem placeF_take:∀(r:List (Nm×Sec)) (free:List Nat) (l:Files) (m:Nat),needW r≤m→placeF r (free.take m) l=placeF r free l
 | [],free,l,m,_=>rfl
 | (s,b)::r,free,l,m,h=>by
  have h':cnt b.length+needW r≤m:=by simpa[needW] using h
  show placeF r ((free.take m).drop (cnt b.length)) (insK s ⟨b.length,(free.take m).take (cnt b.length)⟩ l)=placeF r (free.drop (cnt b.length)) (insK s ⟨b.length,free.take (cnt b.length)⟩ l);rw[List.drop_take,List.take_take,Nat.min_eq_left (by omega),placeF_take r _ _ _ (by omega)]
theorem placeP_take (first:Nat):∀(r:List (Nm×Sec)) (free:List Nat) (m:Nat),needW r≤m→placeP first r (free.take m)=placeP first r free
 | [],free,m,_=>rfl
 | (s,b)::r,free,m,h=>by
  have h':cnt b.length+needW r≤m:=by simpa[needW] using h
  show blockP first b ((free.take m).take (cnt b.length))++placeP first r ((free.take m).drop (cnt b.length))=blockP first b (free.take (cnt b.length))++placeP first r (free.drop (cnt b.length));rw[List.drop_take,List.take_take,Nat.min_eq_left (by omega),placeP_take first r _ _ (by omega)]
theorem placeP_len (first:Nat):∀(r:List (Nm×Sec)) (free:List Nat),needW r≤free.length→(placeP first r free).length=needW r
 | [],free,_=>rfl
 | (s,b)::r,free,h=>by
  have h':cnt b.length+needW r≤free.length:=by simpa[needW] using h
  show (blockP first b (free.take (cnt b.length))++placeP first r (free.drop (cnt b.length))).length=_;rw[List.length_append,placeP_len first r _ (by simp;omega)];simp[blockP,needW];omega
end Go.Aq.Fy
namespace Go.Proofs.YtlbdklaggalgfaaGreatDoor
open Go.RowKit Go.Aq Go.Aq.Fy Go.Maps
theorem FreshR.at_ {w:World} {S:List Nat} {b:Nat} {L:List (Nm×Sec)} (h:FreshR w S b L) (s:Nm) (hs:s.length≤1048576) {x:Sec} (hx:lookK s L=some x):
  ∃ao cap,(Instr.lookup 104 (.map (some b)) (.string (str s)) false).run Tryz.prog w=.ok (.slice ao x.length cap) w∧BytesV w S x (.slice ao x.length cap):=by
 obtain⟨l,hM,h2⟩:=h;have l1:=(hM.look keyS Tryz.underlying104 (zeroB8 w) s hs).1;rcases h2.look s with ⟨e1,e2⟩ | ⟨x',y,e1,e2,hv⟩
 ·rw[hx] at e1;cases e1
 ·rw[hx] at e1;cases e1;rw[e2] at l1;obtain⟨ao,cap,rfl,-⟩:=hv.1.shape;exact⟨ao,cap,l1,hv⟩
theorem WorkR.wide {w:World} {S S':List Nat} {g f bl br:Nat} {W:WorkD} (h:WorkR w S g f bl br W) (hs:∀k∈S',k∈S∨w.heap.size≤k):WorkR w S' g f bl br W:=by
 have hs':∀k∈bl::br::S',k∈bl::br::S∨w.heap.size≤k:=fun k hk=>by
  simp only[List.mem_cons] at hk ⊢;rcases hk with h1 | h1 | h1
  ·exact .inl (.inl h1)
  ·exact .inl (.inr (.inl h1))
  ·exact (hs k h1).imp (fun h2=>.inr (.inr h2)) id
 refine⟨h.blk,h.files.wide hs',h.fresh.wide hs',h.ne,fun hg=>?_,fun hg=>?_,fun hg=>?_⟩
 ·rcases hs' _ hg with h1 | h1
  ·exact h.offg h1
  ·have:=h.blk.lt;omega
 ·rcases hs _ hg with h1 | h1
  ·exact h.offl h1
  ·have:=h.files.lt;omega
 ·rcases hs _ hg with h1 | h1
  ·exact h.offr h1
  ·have:=h.fresh.lt;omega
structure PlaceI (w2 wr:World) (S:List Nat) (g f bl br:Nat) (first:Nat) (W:WorkD) (fr:List Nat) (i:Nat) (fr':List Nat) (P:Puts) (L':Files) (v8 v9:Value) (xs:List Value):Prop where
 off:Disj (eyes v8) [bl]
 pend:PendR wr (v9.ownBlock.toList++bl::br::S) P xs
 work:WorkR wr (v9.ownBlock.toList++S) g f bl br { W with files:=L' }
 chg:Chg [bl] w2 wr
 puts:placeP first W.fresh fr=P++placeP first (W.fresh.drop i) fr'
 files:placeF W.fresh fr W.files=placeF (W.fresh.drop i) fr' L'
 room:needW (W.fresh.drop i)≤fr'.length
 bound:∀k∈fr',k<4096
 small:fr'.length≤102400∧P.length≤256 * i∧L'.length≤400+i
def PlaceEnd (w:World) (S:List Nat) (g f bl br:Nat) (F:FsD) (W:WorkD) (e:Ending) (w':World):Prop:=
 ((freeF F).length<needW W.fresh∧e=.returned (.tuple #[.slice none 0 0,.int .i64 8])∧WorkR w' S g f bl br W∧Chg [] w w')∨
 (needW W.fresh≤(freeF F).length∧∃v xs,e=.returned (.tuple #[v,.int .i64 0])∧OwnN w w' 166 2 v (placeP (firstF F) W.fresh (freeF F)).length xs∧PendR w' (bl::br::S) (placeP (firstF F) W.fresh (freeF F)) xs∧
  WorkR w' S g f bl br { W with files:=placeF W.fresh (freeF F) W.files }∧Chg [bl] w w')
set_option maxRecDepth 100000 in
theorem place_ok (w:World) (Sd X S0:List Nat) (hS0:∀k∈S0,k<w.heap.size) (g f d l bf bl br:Nat) (F:FsD) (W:WorkD) (h:WorkR w (S0) g f bl br W) (hF:∀w',Chg [bl,br] w w'→FsR w' Sd X f d l bf F)
  (hks:∀p∈F.files,∀k∈p.2.blocks,k<allF F) (hbl:∀p∈F.files,p.2.blocks.length≤4096) (hfr:∀p∈W.fresh,p.1.length≤1048576∧p.2.length≤65535) (hrl:W.fresh.length≤400) (hfl:W.files.length≤400):
  Calls Tryz.prog 45 #[.pointer (some ⟨g,0,none⟩)] w (PlaceEnd w (S0) g f bl br F W):=by
 have HS0:=zH hS0;clear hS0;obtain⟨⟨y0,y1,y2⟩,-⟩:=h.blk.c3b;obtain⟨lr,hM,hT⟩:=h.fresh;have hsz:Maps.size (datS lr)=W.fresh.length:=by rw[datS_size,hT.len]
 have hkeys:=hT.keys;have hasc:=hM.asc;have hlen:=hT.len;have hown:=hM.owns;have hascF:Asc W.fresh:=List.pairwise_map.1 (show (W.fresh.map (·.1)).Pairwise (·<·) by rw[hkeys];exact List.pairwise_map.2 hM.asc);have hcnt:∀i (hi:i<W.fresh.length),(W.fresh[i]'hi).2.length≤65535:=fun i hi=>(hfr _ (List.getElem_mem hi)).2
 have hneed:∀i,i≤W.fresh.length→needW (W.fresh.take i)≤256 * i:=by
  intro i
  induction i with
  | zero=>intro _;simp[needW]
  | succ i ih=>
   intro hi;have h1:=ih (by omega);have h2:=hcnt i (by omega);rw[needW_take _ _ (by omega)];unfold cnt;omega
 obtain⟨N,hN⟩:∃N,W.fresh.length=N:=⟨_,rfl⟩;have HH:=zH (And.intro h (And.intro hF (And.intro hks (And.intro hbl (And.intro hfr (And.intro (show N≤400 by omega) (And.intro hfl (And.intro hascF (And.intro hneed hN)))))))));clear hM hT h hF hks hbl hfr hrl hfl hascF hneed hcnt;go_enter Tryz.func45,Tryz.ntmps45;go_wp2_with (first
  | (go_at_call 110;refine (callsIn_wide.1 (Tryz.maps_Keys_110 _ _)).mono ?_;rintro e w' ⟨rfl,rfl⟩)
  | (go_at_call 109;refine (callsIn_wide.1 (Tryz.slices_Sorted_keys_109_110 br lr.length (datS lr) heldR w hown (by rw[hsz,hN];have:=HH.out.2.2.2.2.2.1;unfold maxLen;omega) (by rw[hsz,hN];have:=HH.out.2.2.2.2.2.1;omega))).mono ?_;rintro e w1 ⟨v4,ss,rfl,hS,hrow,hnil,hb⟩;obtain⟨e1,e2⟩:=keys_sorted hasc hS;rw[e1,e2,enc_names,←hkeys,←hlen,hN] at hrow;have hF4:=(Fresh.of_owns hrow hb).back ((Chg.refl _ _).alloc _);clear hrow hnil hb hS e1 e2;obtain⟨a4,q4,rfl,-⟩:=hF4.shape)
  | fail)
 have H4:=zH hF4;clear hF4 hown hsz hasc hkeys hlen hN y0 y1 y2;go_loopg [5,7,25] N (fun k (v5 v7 v25:Value) wr=>∃i:Nat,v25=.int .i64 i∧v5=.int .i64 (needW (W.fresh.take i):Nat)∧Hid (i+k=N∧Chg [] w1 wr));case atStart=>exact⟨0,rfl,by simp[needW],Nat.zero_add _,Chg.refl _ _⟩
 case round=>
  obtain⟨i,rfl,rfl,HI⟩:=hrel;by_cases hi:i<N
  ·have t0:decide ((i:Int)<(N:Int))=true:=by simp;omega
   have t0':decide (i<N)=true:=by simp;omega
   have hil:i<W.fresh.length:=by rw[HH.out.2.2.2.2.2.2.2.2.2];exact hi
   obtain⟨g4,o4,c4,e,-,hc⟩:=(H4.out.own.sees.chg0 HI.out.2).at1 (by omega);cases e;obtain⟨s,hs⟩:∃s,(W.fresh[i]'hil).1=s:=⟨_,rfl⟩;obtain⟨b,hb⟩:∃b,(W.fresh[i]'hil).2=b:=⟨_,rfl⟩;have hmem:(s,b)∈W.fresh:=by rw[←hs,←hb];exact List.getElem_mem hil
   have z0:=hc i hi;rw[show (names (W.fresh.map (·.1)))[i]?=some (.string (str s)) by simp[names,hil,hs]] at z0;have hR:=HH.out.1.chg0 (H4.out.chg.nil HI.out.2);obtain⟨⟨y0,y1,y2⟩,-⟩:=hR.blk.c3b;obtain⟨ab,cb,l1,-⟩:=hR.fresh.at_ s (HH.out.2.2.2.2.1 _ hmem).1 (look_of_mem HH.out.2.2.2.2.2.2.2.1 hmem);have hbl:=(HH.out.2.2.2.2.1 _ hmem).2;simp only at hbl;have hN1:=needW_take W.fresh i hil;rw[hb] at hN1;have hn1:=HH.out.2.2.2.2.2.2.2.2.1 (i+1) (by omega);have hN4:=HH.out.2.2.2.2.2.1;obtain⟨n,hn⟩:∃n,b.length=n:=⟨_,rfl⟩;rw[hn] at l1 hbl hN1;have hcnt:=fun w'=>count_ok w' n (by omega)
   have e5:wrap64 (((needW (W.fresh.take i):Nat):Int)+(cnt n:Int))=((needW (W.fresh.take (i+1)):Nat):Int):=by unfold wrap64;omega
   have e5w:=wIq e5;have e2:wrap64 ((i:Int)+1)=((i+1:Nat):Int):=by unfold wrap64;omega
   have e2w:=wIq e2;have HR:=zA hi hil;generalize cnt n=cn at *;obtain⟨u1,hu1⟩:∃u1,needW (W.fresh.take (i+1))=u1:=⟨_,rfl⟩;have HU:=zH hu1;rw[hu1] at e5 e5w hN1 hn1;clear hu1;generalize needW (W.fresh.take i)=u0 at *;clear hc hs hb hmem hR hN1 hn1 hN4 hn hbl hil y0 y1;go_wp2_with fail;refine (hcnt _).mono ?_;rintro e wq ⟨rfl,rfl⟩;clear hcnt;go_wp2_with fail;go_roundg (gk - 1);case measure=>have:=HI.out.1;have:=HR.out.1;omega
   case rel=>exact⟨i+1,by simp,by rw[HU.out],by have:=HI.out.1;have:=HR.out.1;omega,HI.out.2⟩
  ·have t0:decide ((i:Int)<(N:Int))=false:=by simp;omega
   have t0':decide (i<N)=false:=by simp;omega
   have hiN:i=N:=by have:=HI.out.1;omega
   have hall:needW (W.fresh.take i)=needW W.fresh:=by rw[hiN,←HH.out.2.2.2.2.2.2.2.2.2,List.take_length]
   rw[hall];have hn1:=HH.out.2.2.2.2.2.2.2.2.1 i (by have:=HH.out.2.2.2.2.2.2.2.2.2;omega);rw[hall] at hn1;have hN4:=HH.out.2.2.2.2.2.1;have hF2:=HH.out.2.1 wr (H4.out.chg.nil HI.out.2).toS;have hbk:=fblocks_ok wr Sd X f d l bf F hF2 (needW W.fresh) (by omega) HH.out.2.2.1 HH.out.2.2.2.1;have CR:=zH HI.out.2;obtain⟨⟨y0,y1,y2⟩,-⟩:=(HH.out.1.chg0 (H4.out.chg.nil HI.out.2)).blk.c3b;obtain⟨nd,hnd⟩:∃nd,needW W.fresh=nd:=⟨_,rfl⟩;obtain⟨fr,hfr⟩:∃fr,(freeF F).take nd=fr:=⟨_,rfl⟩;rw[hnd,hfr] at hbk;rw[hnd];have HN:=zB hnd hfr (show nd≤102400 by omega);clear hall hn1 hN4 hF2 hnd hfr HI hiN hi;go_wp2_with fail;refine hbk.mono ?_;rintro e w2 ⟨v8,rfl,hF8⟩;clear hbk;obtain⟨m8,hm8⟩:∃m8,fr.length=m8:=⟨_,rfl⟩;rw[hm8] at hF8;obtain⟨a8,q8,rfl,-⟩:=hF8.shape;have H8:=zB hF8 hm8 ((H4.out.chg.nil CR.out).nil hF8.chg);clear hF8 hm8;by_cases hroom:m8<nd
   ·have t1:decide ((m8:Int)<(nd:Int))=true:=by simp;omega
    have t1':decide (m8<nd)=true:=by simp;omega
    have HQ:=zH hroom;clear hroom;go_wp2_with fail;go_ret2;have h1:=HN.out.2.1;have h2:=H8.out.2.1;rw[←h1,List.length_take] at h2;exact .inl ⟨by rw[HN.out.1];have:=HQ.out;omega,rfl,HH.out.1.chg0 H8.out.2.2,H8.out.2.2⟩
   ·have t1:decide ((m8:Int)<(nd:Int))=false:=by simp;omega
    have t1':decide (m8<nd)=false:=by simp;omega
    have hnf:needW W.fresh≤(freeF F).length∧m8=nd:=by
     have h1:=HN.out.2.1;have h2:=H8.out.2.1;rw[←h1,List.length_take] at h2;rw[HN.out.1];omega
    have HQ:=zH hnf;clear hroom hnf;go_wp2_with fail;have hfr0:placeP (firstF F) W.fresh (freeF F)=placeP (firstF F) W.fresh fr:=by rw[←HN.out.2.1,placeP_take _ _ _ _ (by rw[HN.out.1];exact Nat.le_refl _)]
    have hfr1:placeF W.fresh (freeF F) W.files=placeF W.fresh fr W.files:=by rw[←HN.out.2.1,placeF_take _ _ _ _ (by rw[HN.out.1];exact Nat.le_refl _)]
    have HFR:=zA hfr0 hfr1;have hV8:Sees w2 1 (.slice a8 m8 q8) fr.length (ints fr):=by rw[H8.out.2.1];exact H8.out.1.own.sees
    have hI0:PlaceI w2 w2 (S0) g f bl br (firstF F) W fr 0 fr [] W.files (.slice a8 m8 q8) (.slice none 0 0) []:=by
     refine⟨fun j hj hj'=>?_,.nil,HH.out.1.chg0 H8.out.2.2,Chg.refl _ _,rfl,rfl,?_,?_,?_,by simp,by have:=HH.out.2.2.2.2.2.2.1;omega⟩
     ·have h1:=H8.out.1.new j (eyes_own _ j hj);have h2:=HH.out.1.files.lt;have h3:=(H4.out.chg.nil CR.out).size;simp at hj';omega
     ·rw[List.drop_zero,HN.out.1,←HQ.out.2,H8.out.2.1];exact Nat.le_refl _
     ·intro k hk;rw[←HN.out.2.1] at hk;have h1:=List.mem_of_mem_take hk;unfold freeF at h1;have h2:=List.mem_range.1 (List.mem_filter.1 h1).1;have h3:=(HH.out.2.1 w (Chg.refl _ _)).small;unfold allF firstF homeL at h2;omega
     ·rw[H8.out.2.1,HQ.out.2];exact HN.out.2.2
    have HI0:=zH hI0;have HV8:=zH hV8;clear hfr0 hfr1 hV8 hI0 y0 y1 y2;go_loopg [8,9,11,12,13,14,15,16,52] N (fun k (v8 v9 v11 v12 v13 v14 v15 v16 v52:Value) wr=>∃(i:Nat) (fr':List Nat) (P:Puts) (L':Files) (xs:List Value),v52=.int .i64 i∧Hid (Sees w2 1 v8 fr'.length (ints fr')∧OwnN w2 wr 166 2 v9 P.length xs∧i+k=N∧PlaceI w2 wr (S0) g f bl br (firstF F) W fr i fr' P L' v8 v9 xs));case atStart=>exact⟨0,fr,[],W.files,[],rfl,HV8.out,OwnN.nil _ _ _ _,Nat.zero_add _,HI0.out⟩
    case round=>
     clear HV8 HI0;obtain⟨i,fr',P,L',xs,rfl,HP⟩:=hrel;obtain⟨g4',wN,hgw⟩:∃(g4':Nat) (wN:World),g4'=gk∧wN=wr:=⟨_,_,rfl,rfl⟩;obtain⟨rfl,rfl⟩:=hgw;by_cases hi:i<N
     ·have t0:decide ((i:Int)<(N:Int))=true:=by simp;omega
      have t0':decide (i<N)=true:=by simp;omega
      have hil:i<W.fresh.length:=by rw[HH.out.2.2.2.2.2.2.2.2.2];exact hi
      obtain⟨hv8,hf9,hik,hPI⟩:=HP.out;have hch:=hPI.chg;have h4w:Chg [] w1 w2:=CR.out.nil H8.out.1.chg;have h4lt:=(H4.out.own.sees.chg0 h4w).lt (by decide);have h4s:Sees wN 1 (.slice a4 N q4) N (names (W.fresh.map (·.1))):=(H4.out.own.sees.chg0 h4w).chg hch (fun j hj hj'=>by
       have h1:=H4.out.new j (eyes_own _ j hj);have h2:=HH.out.1.files.lt;simp at hj';omega)
      obtain⟨g4,o4,c4,e,-,hcell⟩:=h4s.at1 (by omega);cases e;obtain⟨s,hs⟩:∃s,(W.fresh[i]'hil).1=s:=⟨_,rfl⟩;obtain⟨b,hb⟩:∃b,(W.fresh[i]'hil).2=b:=⟨_,rfl⟩;have hmem:(s,b)∈W.fresh:=by rw[←hs,←hb];exact List.getElem_mem hil
      have hdrop:W.fresh.drop i=(s,b)::W.fresh.drop (i+1):=by rw[List.drop_eq_getElem_cons hil,←hs,←hb]
      have z0:=hcell i hi;clear hcell;rw[show (names (W.fresh.map (·.1)))[i]?=some (.string (str s)) by simp[names,hil,hs]] at z0;have hR:=hPI.work;obtain⟨⟨y0,y1,y2⟩,-⟩:=hR.blk.c3b;obtain⟨ab,cb,l1,hbv⟩:=hR.fresh.at_ s (HH.out.2.2.2.2.1 _ hmem).1 (look_of_mem HH.out.2.2.2.2.2.2.2.1 hmem);have hbl:=(HH.out.2.2.2.2.1 _ hmem).2;simp only at hbl;have hroom:=hPI.room;rw[hdrop] at hroom;have hroom':cnt b.length+needW (W.fresh.drop (i+1))≤fr'.length:=by simpa[needW] using hroom
      obtain⟨m8',hm8'⟩:∃m,fr'.length=m:=⟨_,rfl⟩;rw[hm8'] at hv8 hroom';obtain⟨a8',q8',rfl,hq8,-⟩:=hv8.shape;have hsm:=hPI.small;rw[hm8'] at hsm;obtain⟨a9,q9,rfl,-⟩:=hf9.shape;obtain⟨m9,hm9⟩:∃m,P.length=m:=⟨_,rfl⟩;rw[hm9] at hf9 hsm ⊢;obtain⟨n,hn⟩:∃n,b.length=n:=⟨_,rfl⟩;have hbs:=hbv.1;rw[hn] at l1 hbl hroom' hbs;have hcnt:=fun w'=>count_ok w' n (by omega)
      obtain⟨c,hc⟩:∃c,cnt n=c:=⟨_,rfl⟩;have hc2:n≤256 * c∧c≤256∧(n=0→c=0):=by rw[←hc];unfold cnt;omega
      rw[hc] at hcnt hroom';have hcm:c≤m8':=by omega
      have hcl:=fun wq (cq:Chg [] wN wq)=>iclone_any wq (.slice a8' c q8') c (fr'.take c) (by
       have h1:=(hv8.chg hch hPI.off).chg0 cq;have h2:=h1.takeG hcm;have h3:(ints fr').take c=ints (fr'.take c):=by simp[ints,List.map_take]
       rw[h3] at h2;exact h2) (by omega)
      obtain⟨z,hz⟩:∃z,256 * c - n=z:=⟨_,rfl⟩;have e5:wrap64 ((c:Int) * 256)=256 * (c:Int):=by unfold wrap64;omega
      have e5w:=wIq e5;have e6:wrap64 (256 * (c:Int) - (n:Int))=(z:Int):=by unfold wrap64;omega
      have e6w:=wIq e6;have e2:wrap64 ((i:Int)+1)=((i+1:Nat):Int):=by unfold wrap64;have:=HH.out.2.2.2.2.2.1;omega
      have e2w:=wIq e2;have hcq:c≤q8':=by omega
      have hcq':(c:Int)≤(q8':Int):=by omega
      have HR:=zH (And.intro hi (And.intro hmem (And.intro hdrop (And.intro hbs (And.intro hm8' (And.intro hm9 (And.intro hn (And.intro hc (And.intro hc2 (And.intro hcm (And.intro hz (And.intro (show i+1≤400 from Nat.le_trans hi HH.out.2.2.2.2.2.1) (And.intro hroom' hq8)))))))))))));clear hs hb hmem hdrop hroom hbv hbs hm8' hm9 hn hc hc2 hik hch h4w h4lt h4s hR hv8 hf9 hPI hsm hroom' hil hz;go_wp2_with fail;refine (hcnt _).mono ?_;rintro e wq ⟨rfl,hwq⟩;obtain rfl:wN=wq:=hwq.symm;clear hcnt;go_wp2_with fail;refine (hcl wN (Chg.refl _ _)).mono ?_;rintro e w3 ⟨vx,rfl,hFx⟩;obtain⟨ax,qx,rfl,-⟩:=hFx.shape;clear hcl;go_upto_region 18 with (fail);obtain⟨w4,hw4⟩:∃w4,w3.alloc (Obj.cells #[.int .i64 n,.slice ax c qx] 103)=w4:=⟨_,rfl⟩;obtain⟨K,hK⟩:∃K,w3.heap.size=K:=⟨_,rfl⟩;have hbx:Blk w4 K #[.int .i64 n,.slice ax c qx] 103:=by rw[←hw4,←hK];exact Blk.new _ _ _
      have k4:Chg [] w3 w4:=by rw[←hw4];exact (Chg.refl [] w3).alloc _
      rw[hw4,hK];have cN4:Chg [] wN w4:=hFx.chg.nil k4;have hbc:=bclone_any w4 (.slice ab n cb) n b (HR.out.2.2.2.1.chg0 cN4) (by have:=HR.out.2.2.2.2.2.2.2.2.1;omega);have HX:=zD hFx hbx hK k4 cN4;clear hFx hbx hK k4 cN4 hw4;go_wp2_with fail;refine hbc.mono ?_;rintro e w5 ⟨vb,rfl,hFb⟩;obtain⟨avb,qvb,rfl,-⟩:=hFb.shape;clear hbc;have hbK:=(HX.out.2.1.chg0 hFb.chg);go_wp2_with (first
       | (at_builtin;refine wpList_appZ' rfl _ _ 38 3 rfl sl_u8y rfl rfl Tryz.underlying3 hFb rfl rfl rfl (by have h1:=HR.out.2.2.2.2.2.2.2.2.1;have h2:=HR.out.2.2.2.2.2.2.2.2.2.2.1;omega) (by have h1:=HR.out.2.2.2.2.2.2.2.2.1;have h2:=HR.out.2.2.2.2.2.2.2.2.2.2.1;omega) (by have h1:=HR.out.2.2.2.2.2.2.2.2.1;have h2:=HR.out.2.2.2.2.2.2.2.2.2.2.1;omega) ?_;intro v6 w6 hF6 c6;obtain⟨a6,q6,rfl,-⟩:=hF6.shape;have hb6:=hbK.chg c6 (fun hh=>by have h1:=hFb.new K hh;have h2:=HX.out.2.1.lt;omega);obtain⟨⟨x0,x1⟩,-⟩:=hb6.c2)
       | fail)
      obtain⟨hv8,hf9,hik,hPI⟩:=HP.out;rw[HR.out.2.2.2.2.2.1] at hf9;have c46:Chg [] w4 w6:=hF6.chg;have cN6:Chg [] wN w6:=HX.out.2.2.2.2.nil c46;have hB6:Own w6 5 1 (.slice a6 (n+z) q6) (n+z) (Bs (b++nul z)):=by
       have h1:=hF6.own;have h2:Bs b++List.replicate z (.int .u8 0)=Bs (b++nul z):=by simp[Bs,nul,Bc]
       rw[h2] at h1;exact h1
      have hbn:∀j∈(Value.slice a6 (n+z) q6).ownBlock.toList,wN.heap.size≤j:=fun j hj=>by
       have h1:=hF6.new j hj;have h2:=HX.out.2.2.2.2.size;omega
      have hf96:OwnN w2 w6 166 2 (.slice a9 m9 q9) m9 xs:=hf9.to cN6;have h9lt:∀j∈(Value.slice a9 m9 q9).ownBlock.toList,j<wN.heap.size:=fun j hj=>hf9.own.lt j hj
      have hu96:Upd ((Value.slice a9 (List.length P) q9).ownBlock.toList++bl::br::S0) ((Value.slice a9 m9 q9).ownBlock.toList++bl::br::S0) wN w6:=⟨cN6.toS,fun j hj=>.inl (by rw[HR.out.2.2.2.2.2.1];exact hj)⟩;have hp6:=hPI.pend.upd hu96;have HJ0:=zF hf96 hp6 h9lt hbn hB6 c46 cN6;have HI6:=zH hb6;clear hv8 hf9 hik hPI c46 cN6 hB6 hbn hf96 h9lt hu96 hp6 hF6 c6 hFb hbK hb6 x0 x1;obtain⟨ks,hks⟩:∃ks,fr'.take c=ks:=⟨_,rfl⟩;have HK:=zA hks (show ks.length=c by rw[←hks,List.length_take,HR.out.2.2.2.2.1];have:=HR.out.2.2.2.2.2.2.2.2.2.1;omega);clear hks;obtain⟨gk0,hgk0⟩:∃g,g=gk:=⟨_,rfl⟩;obtain⟨i0,hi0⟩:∃g,g=i:=⟨_,rfl⟩;subst hgk0 hi0;go_loopg [9,15,16,83] c (fun k (v9 v15 v16 v83:Value) wy=>∃(j:Nat) (ys:List Value),v83=.int .i64 j∧Hid (j+k=c∧OwnN w2 wy 166 2 v9 (m9+j) ys∧PendR wy (v9.ownBlock.toList++bl::br::S0) (P++(blockP (firstF F) b ks).take j) ys∧Chg (Value.slice a9 m9 q9).ownBlock.toList w6 wy∧∀t∈v9.ownBlock.toList,t∈(Value.slice a9 m9 q9).ownBlock.toList∨w6.heap.size≤t));case atStart=>exact⟨0,xs,rfl,Nat.zero_add _,HJ0.out.1,by rw[List.take_zero,List.append_nil];exact HJ0.out.2.1,Chg.refl _ _,fun t ht=>.inl ht⟩
      case round=>
       obtain⟨j,ys,rfl,HJ⟩:=hrel;by_cases hj:j<c
       ·have t0:decide ((j:Int)<(c:Int))=true:=by simp;omega
        have t0':decide (j<c)=true:=by simp;omega
        obtain⟨hjk,hfy,hpy,hcy,hny⟩:=HJ.out;obtain⟨hf96,hp6,h9lt,hbn,hB6,c46,cN6⟩:=HJ0.out;obtain⟨a',q',rfl,-⟩:=hfy.shape;have hsx:=((HX.out.1.own.sees.chg0 HX.out.2.2.2.1).chg0 c46).chg hcy (fun t ht ht'=>by
         have h1:=HX.out.1.new t (eyes_own _ t ht);have h2:=h9lt t ht';omega)
        obtain⟨gx,ox,cx,e,-,hcx⟩:=hsx.at1 (by omega);cases e;obtain⟨kb,hkb⟩:∃kb,ks[j]?=some kb:=⟨_,List.getElem?_eq_getElem (by rw[HK.out.2];exact hj)⟩;have z0:=hcx j hj;rw[HK.out.1,show (ints ks)[j]?=some (.int .i64 (kb:Int)) by simp[ints,hkb]] at z0;have hkbm:kb<4096:=by
         obtain⟨_,_,_,hPI⟩:=HP.out;have h1:=List.mem_of_getElem? hkb;rw[←HK.out.1] at h1;exact hPI.bound kb (List.mem_of_mem_take h1)
        have hc2:=HR.out.2.2.2.2.2.2.2.2.1;have hz:=HR.out.2.2.2.2.2.2.2.2.2.2.1;have hM:n+z=256 * c:=by omega
        obtain⟨g6,cc6,e,-⟩:=hB6.pos (by omega);cases e;have hgw:g<w2.heap.size:=by have h1:=HH.out.1.blk.lt;have h2:=H8.out.2.2.size;omega
        have hgo:g∉(Value.slice a' (m9+j) q').ownBlock.toList:=fun hh=>by have:=hfy.new g hh;omega
        have hPw:Chg [bl] w2 wN:=by obtain⟨_,_,_,hPI⟩:=HP.out;exact hPI.chg
        have h9n:∀t∈(Value.slice a9 m9 q9).ownBlock.toList,w2.heap.size≤t:=fun t ht=>by have:=hf96.new t ht;exact this
        have c2y:Chg [bl] w2 wr:=(hPw.nil cN6).trans hcy (fun t ht=>.inr (h9n t ht));have cwy:Chg [bl,br] w wr:=(H8.out.2.2.toS.tr (c2y.mono (fun t ht=>.inl (by simp at ht;simp[ht]))));have hgb:g∉[bl]:=by have:=HH.out.1.offg;simp at this ⊢;exact this.1
        obtain⟨⟨y0,-,-⟩,-⟩:=(HH.out.1.chg0 H8.out.2.2).blk.c3b;replace y0:=c2y.cell_some y0 hgb;obtain⟨lo,hlo⟩:∃lo,256 * j=lo:=⟨_,rfl⟩;obtain⟨hi_,hhi⟩:∃hi,256 * j+256=hi:=⟨_,rfl⟩;obtain⟨_,_,e,hq6,-⟩:=hB6.sees.shape;cases e;have w98:IntKind.i64.wrap ((j:Int) * 256)=(lo:Int):=wIq (by unfold wrap64;omega);have w100:IntKind.i64.wrap ((j:Int)+1)=((j+1:Nat):Int):=wIq (by unfold wrap64;omega);have w101:IntKind.i64.wrap (((j:Int)+1) * 256)=(hi_:Int):=wIq (by unfold wrap64;omega);have s1:(lo:Int)≤(hi_:Int):=by omega
        have s2:(hi_:Int)≤(q6:Int):=by omega
        have s3:¬(q6=lo):=by omega
        have s4:hi_ - lo=256:=by omega
        have hB:=zH (And.intro hB6 (And.intro hfy (And.intro hpy (And.intro hcy (And.intro hny (And.intro c2y (And.intro cwy (And.intro h9n (And.intro hkb (And.intro hkbm (And.intro hM (And.intro hlo (And.intro hhi (And.intro hj (And.intro hjk (And.intro h9lt (And.intro hbn cN6)))))))))))))))));clear hB6 hfy hpy hcy hny c2y cwy h9n hkb hkbm hM hlo hhi hjk h9lt hbn cN6 hsx hcx hf96 hp6 c46 hgb hPw hgw hz hc2 hq6;go_upto_region 22 with (fail);obtain⟨W0,hW0⟩:∃W0,wr.drew=W0:=⟨_,rfl⟩;have cd:Chg [] wr W0:=by rw[←hW0];exact (Chg.refl _ _).drew
        refine wp_region_U (Value.slice a' (m9+j) q').ownBlock.toList (fun _=>false) (by kernel_rfl) ?_;rw[hW0];clear hW0;have C0:Chg (Value.slice a' (m9+j) q').ownBlock.toList W0 W0:=Chg.refl _ _;have y0':=cd.cell_some y0 (by simp);clear y0 z0;refine tU 0 (.slice a' (m9+j) q') C0 (fun w4 c4=>?_) ?_;·go_simp
        refine yG ?_;refine tU 1 (.pointer (some ⟨g,0,none⟩)) C0 (fun w4 c4=>?_) ?_;·go_simp
        refine yG ?_;refine tU 2 (.pointer (some ⟨g,0,none⟩)) C0 (fun w4 c4=>?_) ?_;·go_simp
        refine yG ?_;refine tU 3 (.pointer (some ⟨g,0,none⟩)) C0 (fun w4 c4=>?_) ?_;·go_simp
        refine yG ?_;refine tU 4 (.pointer (some ⟨f,0,none⟩)) C0 (fun w4 c4=>?_) ?_
        ·have z:=c4.cell_some y0' hgo;go_simp
        refine yG ?_;refine tU 6 (.int .i64 kb) C0 (fun w4 c4=>?_) ?_;·go_simp
        refine yG ?_;refine tU 8 (.slice (some ⟨g6,0,none⟩) (n+z) q6) C0 (fun w4 c4=>?_) ?_;·go_simp
        refine yG ?_;refine tU 9 (.int .i64 j) C0 (fun w4 c4=>?_) ?_;·go_simp
        refine yG ?_;refine tU 10 (.int .i64 lo) C0 (fun w4 c4=>?_) ?_;·go_simp
        refine yG ?_;refine tU 11 (.int .i64 j) C0 (fun w4 c4=>?_) ?_;·go_simp
        refine yG ?_;refine tU 12 (.int .i64 (j+1:Nat)) C0 (fun w4 c4=>?_) ?_;·go_simp
        refine yG ?_;refine tU 13 (.int .i64 hi_) C0 (fun w4 c4=>?_) ?_;·go_simp
        refine yG ?_;refine tU 14 (.slice (some ⟨g6,lo,none⟩) 256 (q6 - lo)) C0 (fun w4 c4=>?_) ?_;·go_simp
        refine yG ?_;have hfs:=HH.out.2.1 W0 (hB.out.2.2.2.2.2.2.1.nil cd);have hfo:=first_ok W0 Sd X f d l bf F hfs;have hsm:=hfs.small;have e7:IntKind.i64.wrap ((firstF F:Int)+(kb:Int))=((firstF F+kb:Nat):Int):=wIq (by have:=hB.out.2.2.2.2.2.2.2.2.2.1;unfold wrap64;omega);refine oU 5 ?_;go_simp;refine hfo.mono ?_;rintro e w1' ⟨rfl,q1,hq1⟩;have c1:Chg [] W0 w1':=by rw[hq1];exact (Chg.refl _ _).drewN q1
        clear hq1 hfo;refine⟨c1.toS,?_⟩;refine yG ?_;refine tU 7 (.int .i64 ((firstF F+kb:Nat):Int)) c1.toS (fun w4 c4=>?_) ?_;·go_simp
        refine yG ?_;refine tU 15 (.agg #[.int .i64 ((firstF F+kb:Nat):Int),.slice (some ⟨g6,lo,none⟩) 256 (q6 - lo)]) c1.toS (fun w4 c4=>?_) ?_;·go_simp
        refine yG ?_;refine oU 16 ?_;go_simp;have hca:Chg [] w1' (w1'.alloc (.cells #[.int .i64 ((firstF F+kb:Nat):Int),.slice (some ⟨g6,lo,none⟩) 256 (q6 - lo)] 166)):=(Chg.refl [] _).alloc _;have hbx':Blk (w1'.alloc (.cells #[.int .i64 ((firstF F+kb:Nat):Int),.slice (some ⟨g6,lo,none⟩) 256 (q6 - lo)] 166)) w1'.heap.size #[.int .i64 ((firstF F+kb:Nat):Int),.slice (some ⟨g6,lo,none⟩) 256 (q6 - lo)] 166:=Blk.new _ _ _;have hsrc:Sees (w1'.alloc (.cells #[.int .i64 ((firstF F+kb:Nat):Int),.slice (some ⟨g6,lo,none⟩) 256 (q6 - lo)] 166)) 2 (.slice (some ⟨w1'.heap.size,0,none⟩) 1 1) 1 [.int .i64 ((firstF F+kb:Nat):Int),.slice (some ⟨g6,lo,none⟩) 256 (q6 - lo)]:=Sees.blk hbx';refine⟨(c1.nil hca).toS,?_⟩;refine yG ?_;have cA:Chg [] wr (w1'.alloc (.cells #[.int .i64 ((firstF F+kb:Nat):Int),.slice (some ⟨g6,lo,none⟩) 256 (q6 - lo)] 166)):=(cd.nil c1).nil hca;have hFa:=hB.out.2.1.to cA;have hsz:=hB.out.2.2.2.2.2.2.2.2.2.2.1;have hi4:=HR.out.2.2.2.2.2.2.2.2.2.2.2.1;have hc22:=HR.out.2.2.2.2.2.2.2.2.1.2.1;have hjj:=hB.out.2.2.2.2.2.2.2.2.2.2.2.2.2.1;have hPl:m9≤102400:=by obtain⟨_,_,_,hPI⟩:=HP.out;have h1:=hPI.small.2.1;rw[HR.out.2.2.2.2.2.1] at h1;exact Nat.le_trans h1 (Nat.le_trans (Nat.mul_le_mul_left 256 (Nat.le_of_lt hi4)) (Nat.le_refl 102400))
        refine oU 17 ?_;refine wp_app _ _ 108 rfl sl_put hFa.own rfl hsrc rfl (by intro u hu;simp at hu;rcases hu with rfl | rfl <;> rfl) (by omega) (by omega) ?_;intro v8 w8 ho8 c8 hn8;have hF8:=hFa.app ho8 hn8 (by have h1:=hB.out.2.2.2.2.2.1.size;have h2:=cA.size;exact Nat.le_trans h1 h2);have cW8:=(c1.nil hca).toS.tr c8;refine⟨cW8,?_⟩;refine yG ?_;refine tU 18 (v8) cW8 (fun w4 c4=>?_) ?_;·go_simp
        refine yG ?_;refine wpAnyU_done (by kernel_rfl) ?_ _;have HZ:=zC hF8 cA c8 hn8;clear hF8 c8 hn8 ho8 cW8 hFa cA hsrc hbx' hca c1 C0 cd y0' hgo hfs hsm e7 w98 w100 w101 s1 s2 s3 s4 hsz hi4 hc22 hjj hPl hj;have e8:wrap64 ((j:Int)+1)=((j+1:Nat):Int):=by have h1:=HR.out.2.2.2.2.2.2.2.2.1.2.1;have h2:=hB.out.2.2.2.2.2.2.2.2.2.2.2.2.2.1;unfold wrap64;omega
        have e8w:=wIq e8;go_wp2_with fail;go_roundg (gk - 1);case measure=>have h1:=hB.out.2.2.2.2.2.2.2.2.2.2.2.2.2.2.1;have h2:=hB.out.2.2.2.2.2.2.2.2.2.2.2.2.2.1;omega
        case rel=>
         obtain⟨hB6,hfy,hpy,hcy,hny,c2y,cwy,h9n,hkb,hkbm,hM,hlo,hhi,hj,hjk,h9lt,hbn,cN6⟩:=hB.out;obtain⟨hF8,cA,c8,hn8⟩:=HZ.out;have g6n:wN.heap.size≤g6:=hbn g6 (by simp[Value.ownBlock]);have g6l:g6<w6.heap.size:=hB6.lt g6 (by simp[Value.ownBlock]);have hs1:=cN6.size;have hs2:=hcy.size;have hs3:=cA.size;have hold:∀t∈bl::br::S0,t<w.heap.size:=fun t ht=>by
          have h0:=HS0.out;rcases List.mem_cons.1 ht with rfl | ht
          ·exact HH.out.1.files.lt
          ·rcases List.mem_cons.1 ht with rfl | ht
           ·exact HH.out.1.fresh.lt
           ·exact h0 t ht
         have hw2:=H8.out.2.2.size;have hw2N:w2.heap.size≤wN.heap.size:=by obtain⟨_,_,_,hPI⟩:=HP.out;exact hPI.chg.size
         have g69:∀t∈(Value.slice a' (m9+j) q').ownBlock.toList,g6≠t:=fun t ht e=>by
          rcases hny t ht with h1 | h1
          ·have:=h9lt t h1;omega
          ·omega
         have hu:Upd ((Value.slice a' (m9+j) q').ownBlock.toList++bl::br::S0) (v8.ownBlock.toList++bl::br::S0) wr w8:=⟨(cA.toS.tr c8).mono (fun k hk=>.inl (by simp[hk])),fun k hk=>by
          rcases List.mem_append.1 hk with hk | hk
          ·rcases hn8 k hk with h1 | h1
           ·exact .inl (by simp[h1])
           ·exact .inr (Nat.le_trans hs3 h1)
          ·exact .inl (by simp[hk])⟩
         have hsv:SecV w8 (v8.ownBlock.toList++bl::br::S0) (.slice (some ⟨g6,lo,none⟩) 256 (q6 - lo)) (((b++nul z).drop lo).take 256):=by
          obtain⟨_,_,_,e,-,h1⟩:=hB6.sees.part lo 256 (by decide) (by omega);simp only[Value.slice.injEq,Option.some.injEq,Addr.mk.injEq,and_true,true_and] at e;obtain⟨⟨rfl,rfl⟩,rfl⟩:=e;rw[Nat.zero_add,←Bs_drop,←Bs_take] at h1;have hey:eyes (.slice (some ⟨g6,lo,none⟩) 256 (q6 - lo))=[g6]:=rfl;refine⟨((h1.chg hcy (fun t ht ht'=>?_)).chg0 cA).chg c8 (fun t ht ht'=>?_),fun t ht ht'=>?_⟩;·rw[hey,List.mem_singleton] at ht;have:=h9lt t ht';omega
          ·rw[hey,List.mem_singleton] at ht;exact g69 t ht' ht.symm
          ·rw[hey,List.mem_singleton] at ht;subst ht;rcases List.mem_append.1 ht' with h2 | h2
           ·rcases hn8 t h2 with h3 | h3
            ·exact g69 t h3 rfl
            ·exact absurd (Nat.le_trans (Nat.le_trans hs2 hs3) h3) (Nat.not_le.2 g6l)
           ·have:=hold t h2;omega
         have hst:(blockP (firstF F) b ks).take (j+1)=(blockP (firstF F) b ks).take j++[(firstF F+kb,((b++nul z).drop lo).take 256)]:=by
          have hjl:j<ks.length:=by rw[HK.out.2];exact hj
          have hjb:j<(blockP (firstF F) b ks).length:=by simp[blockP];exact hjl
          rw[List.take_succ_eq_append_getElem hjb];congr 2;have hkb':ks[j]'hjl=kb:=by have:=List.getElem?_eq_getElem hjl;rw[hkb] at this;exact (Option.some.inj this).symm
          have hzz:=HR.out.2.2.2.2.2.2.2.2.2.2.1;have hnn:=HR.out.2.2.2.2.2.2.1;have hcc:=HR.out.2.2.2.2.2.2.2.1;simp only[blockP,List.getElem_mapIdx,hkb'];rw[hnn,hcc,Nat.mul_comm c 256,hzz,hlo]
         refine⟨j+1,ys++[.int .i64 ((firstF F+kb:Nat):Int),.slice (some ⟨g6,lo,none⟩) 256 (q6 - lo)],by simp,by omega,hF8,?_,?_,fun t ht=>?_⟩
         ·rw[hst,←List.append_assoc];exact PendR.snoc hsv (hpy.upd hu)
         ·refine hcy.trans (cA.toS.tr c8) fun t ht=>hny t ht
         ·rcases hn8 t ht with h1 | h1
          ·exact hny t h1
          ·exact .inr (Nat.le_trans (Nat.le_trans hs2 hs3) h1)
       ·have t0:decide ((j:Int)<(c:Int))=false:=by simp;omega
        have t0':decide (j<c)=false:=by simp;omega
        have hjc:j=c:=by have:=HJ.out.1;omega
        subst hjc;obtain⟨-,hfy,hpy,hcy,hny⟩:=HJ.out;obtain⟨hf96,hp6,h9lt,hbn,hB6,c46,cN6⟩:=HJ0.out;obtain⟨hv8,hf9,hik,hPI⟩:=HP.out;obtain⟨a',q',rfl,-⟩:=hfy.shape;have hPlen:=HR.out.2.2.2.2.2.1;have hwork:WorkR wr ((Value.slice a' (m9+j) q').ownBlock.toList++S0) g f bl br { W with files:=L' }:=by
         have h1:=hPI.work.chg0 cN6;have h2:WorkR w6 ((Value.slice a9 m9 q9).ownBlock.toList++((Value.slice a' (m9+j) q').ownBlock.toList++S0)) g f bl br { W with files:=L' }:=h1.wide fun t ht=>by
          simp only[List.mem_append] at ht;rcases ht with h3 | h3 | h3
          ·exact .inl (by rw[hPlen];simp[h3])
          ·rcases hny t h3 with h4 | h4
           ·exact .inl (by rw[hPlen];simp[h4])
           ·exact .inr h4
          ·exact .inl (List.mem_append_right _ h3)
         exact (h2.chg hcy fun t ht=>.inl (List.mem_append_left _ ht)).wide fun t ht=>.inl (List.mem_append_right _ ht)
        have hbK:Blk wr K #[.int .i64 n,.slice ax j qx] 103:=HI6.out.chg hcy (fun hh=>by have h1:=h9lt K hh;have h2:=HX.out.2.2.1;have h3:=HX.out.1.chg.size;omega);have hold:∀t∈bl::br::S0,t<w.heap.size:=fun t ht=>by
         have h0:=HS0.out;rcases List.mem_cons.1 ht with rfl | ht
         ·exact HH.out.1.files.lt
         ·rcases List.mem_cons.1 ht with rfl | ht
          ·exact HH.out.1.fresh.lt
          ·exact h0 t ht
        have hw2:=H8.out.2.2.size;have hw2N:=hPI.chg.size;have hs3:=HX.out.1.chg.size;have hs36:w3.heap.size≤w6.heap.size:=by have h1:=HX.out.2.2.2.1.size;have h2:=c46.size;omega
        have hxV:FileV wr (bl::br::((Value.slice a' (m9+j) q').ownBlock.toList++S0)) ⟨n,ks⟩ (.agg #[.int .i64 n,.slice ax j qx]):=by
         refine⟨_,rfl,?_,fun t ht ht'=>?_⟩
         ·have h1:=((HX.out.1.own.sees.chg0 HX.out.2.2.2.1).chg0 c46).chg hcy (fun t ht ht'=>by
           have h1:=HX.out.1.new t (eyes_own _ t ht);have h2:=h9lt t ht';omega)
          rw[HK.out.1] at h1;show Sees wr 1 _ ks.length (ints ks);rw[HK.out.2];exact h1
         ·have h1:=HX.out.1.new t (eyes_own _ t ht);have h2:t<w3.heap.size:=HX.out.1.own.lt t (eyes_own _ t ht);have h3:t∈bl::br::S0∨t∈(Value.slice a' (m9+j) q').ownBlock.toList:=by
           simp only[List.mem_cons,List.mem_append] at ht' ⊢;rcases ht' with h | h | h | h
           ·exact .inl (.inl h)
           ·exact .inl (.inr (.inl h))
           ·exact .inr h
           ·exact .inl (.inr (.inr h))
          rcases h3 with h3 | h3
          ·have:=hold t h3;omega
          ·rcases hny t h3 with h4 | h4
           ·have:=h9lt t h4;omega
           ·omega
        have hcm:=HR.out.2.2.2.2.2.2.2.2.2.1;have hcm':(j:Int)≤(m8':Int):=by omega
        have HE:=zH (And.intro hfy (And.intro hpy (And.intro hcy (And.intro hny (And.intro hwork (And.intro hxV (And.intro h9lt (And.intro cN6 (And.intro hold (And.intro hw2 (And.intro hw2N (And.intro hv8 (And.intro hik hPI)))))))))))));obtain⟨⟨x0,x1⟩,-⟩:=hbK.c2;clear hfy hpy hcy hny hwork hxV h9lt cN6 hold hw2 hw2N hv8 hik hPI hf9 hf96 hp6 hbn hB6 c46 hs3 hs36 hbK hPlen hcm hj;obtain⟨v8n,hv8n⟩:∃v8n,Value.slice (if q8'=j then a8' else a8'.map (·.add j)) (m8' - j) (q8' - j)=v8n:=⟨_,rfl⟩;have HV8:=zH hv8n;have HDR:Hid (Sees w2 1 v8n (m8' - j) (ints (fr'.drop j))∧Disj (eyes v8n) [bl]):=by
         obtain⟨-,-,-,-,-,-,-,-,-,-,-,hv8,hik,hPI⟩:=HE.out;have hcm:=HR.out.2.2.2.2.2.2.2.2.2.1;have hm8:=HR.out.2.2.2.2.1;rw[hm8] at hv8;have hdr:=hv8.dropG hcm;have hdo:=disj_dropG (cap:=q8') (k:=j) (n:=m8' - j) (c':=q8' - j) hPI.off (Nat.sub_le _ _);rw[hv8n] at hdr hdo;rw[show (ints fr').drop j=ints (fr'.drop j) by simp[ints,List.map_drop]] at hdr;exact⟨hdr,hdo⟩
        have HCM:=zH hcm';clear hv8n;by_cases hqj:q8'=j
        ·have hv8':Value.slice a8' 0 0=v8n:=by
          have h1:=HV8.out;have h2:=HR.out.2.2.2.2.2.2.2.2.2.1;have h3:=HR.out.2.2.2.2.2.2.2.2.2.2.2.2.2;rw[if_pos hqj,show m8' - j=0 by omega,show q8' - j=0 by omega] at h1;exact h1
         have HQJ:=zH hv8';clear hv8' HV8;have hqj':=hqj.symm;clear hqj;subst hqj';go_upto_region 25 with (fail);obtain⟨W0,hW0⟩:∃W0,wr.drew=W0:=⟨_,rfl⟩;have cd:Chg [] wr W0:=by rw[←hW0];exact (Chg.refl _ _).drew
         refine wp_region_U [] (fun i=>decide (6≤i)) (by kernel_rfl) ?_;rw[hW0];clear hW0;have C0:Chg [] W0 W0:=Chg.refl _ _;have hR0:=HE.out.2.2.2.2.1.chg0 cd;obtain⟨⟨-,y1,-⟩,-⟩:=hR0.blk.c3b;have x0':=cd.cell_some x0 (by simp);have x1':=cd.cell_some x1 (by simp);clear x0 x1;refine tU 0 (.pointer (some ⟨g,0,none⟩)) C0 (fun w4 c4=>?_) ?_;·go_simp
         refine yG ?_;refine tU 1 (.pointer (some ⟨g,0,none⟩)) C0 (fun w4 c4=>?_) ?_;·go_simp
         refine yG ?_;refine tU 2 (.pointer (some ⟨g,1,none⟩)) C0 (fun w4 c4=>?_) ?_;·go_simp
         refine yG ?_;refine tU 3 (.map (some bl)) C0 (fun w4 c4=>?_) ?_
         ·have z:=c4.cell_some y1 (by simp);go_simp
         refine yG ?_;refine tU 4 (.string (str s)) C0 (fun w4 c4=>?_) ?_;·go_simp
         refine yG ?_;refine tU 5 (.agg #[.int .i64 n,.slice ax j qx]) C0 (fun w4 c4=>?_) ?_
         ·have z:=c4.cell_some x0' (by simp);have z1:=c4.cell_some x1' (by simp);go_simp
         refine yG ?_;have hmemS:=HR.out.2.1;have hL4:L'.length≤1000000:=by have h1:=HE.out.2.2.2.2.2.2.2.2.2.2.2.2.2.small.2.2;have h2:=HR.out.2.2.2.2.2.2.2.2.2.2.2.1;omega
         obtain⟨w7,r7,m7,k7⟩:=hR0.files.put s (HH.out.2.2.2.2.1 _ hmemS).1 (by simp) hL4 (HE.out.2.2.2.2.2.1.chg cd (by simp));have hR7:=hR0.putL k7 m7;refine wpAnyU_last 6 rfl (by kernel_rfl) (by rfl) (by rfl) ?_;refine wp_upd _ _ _ 93 rfl rfl rfl rfl r7 ?_;refine yG ?_;refine wpAny_fin (by kernel_rfl) ?_ _;have H7:=zA hR7 (cd.toS.tr k7);clear hR7 m7 k7 r7 hR0 y1 x0' x1' C0 cd hL4 hmemS;have e9:wrap64 ((i0:Int)+1)=((i0+1:Nat):Int):=by have h1:=HR.out.2.2.2.2.2.2.2.2.2.2.2.1;unfold wrap64;omega
         have e9w:=wIq e9;go_wp2_with fail;go_roundg (g4' - 1);case measure=>have h1:=HE.out.2.2.2.2.2.2.2.2.2.2.2.2.1;have h2:=HR.out.1;omega
         case rel=>
          obtain⟨hfy,hpy,hcy,hny,hwork,hxV,h9lt,cN6,hold,hw2,hw2N,hv8,hik,hPI⟩:=HE.out;have hcm:=HR.out.2.2.2.2.2.2.2.2.2.1;have hm8:=HR.out.2.2.2.2.1;have hlen:(fr'.drop j).length=m8' - j:=by rw[List.length_drop,hm8]
          obtain⟨hdr,hdo⟩:=HDR.out;rw[←HQJ.out] at hdr hdo;have hbk:(blockP (firstF F) b ks).length=j:=by simp[blockP,HK.out.2]
          rw[List.take_of_length_le (by rw[hbk];exact Nat.le_refl _)] at hpy;have hdrop:=HR.out.2.2.1;have hnn:=HR.out.2.2.2.2.2.2.1;have hcc:=HR.out.2.2.2.2.2.2.2.1;have hroom:=HR.out.2.2.2.2.2.2.2.2.2.2.2.2.1;have hblold:bl<w.heap.size:=hold bl (by simp);have hw2s:=H8.out.2.2.size;have hlP:(P++blockP (firstF F) b ks).length=m9+j:=by rw[List.length_append,hbk,HR.out.2.2.2.2.2.1]
          have h9n:=HP.out.2.1.new;rw[HR.out.2.2.2.2.2.1] at h9n;refine⟨i0+1,fr'.drop j,P++blockP (firstF F) b ks,insK s ⟨n,ks⟩ L',ys,by simp,?_,?_,by omega,⟨?_,?_,H7.out.1,?_,?_,?_,?_,?_,?_⟩⟩;·rw[hlen];exact hdr
          ·rw[hlP];exact hfy.chg H7.out.2 (fun t ht ht'=>by simp at ht';subst ht';have:=hfy.new _ ht;omega)
          ·exact hdo
          ·exact hpy.upd ⟨H7.out.2.mono (fun t ht=>.inl (by simp at ht;simp[ht])),fun t ht=>.inl ht⟩
          ·exact ((hPI.chg.nil cN6).trans hcy (fun t ht=>.inr (h9n t ht))).tr H7.out.2
          ·rw[hPI.puts,hdrop];show P++(blockP (firstF F) b (fr'.take (cnt b.length))++placeP (firstF F) (W.fresh.drop (i0+1)) (fr'.drop (cnt b.length)))=_;rw[hnn,hcc,HK.out.1,List.append_assoc]
          ·rw[hPI.files,hdrop];show placeF (W.fresh.drop (i0+1)) (fr'.drop (cnt b.length)) (insK s ⟨b.length,fr'.take (cnt b.length)⟩ L')=_;rw[hnn,hcc,HK.out.1]
          ·rw[hlen];omega
          ·exact fun k hk=>hPI.bound k (List.mem_of_mem_drop hk)
          ·have h1:=hPI.small;have h2:=ins_length_le s (⟨n,ks⟩:FileD) L';have h3:=HR.out.2.2.2.2.2.2.2.2.1.2.1;have h4:=HR.out.2.2.2.2.2.1;rw[hm8] at h1;refine⟨by rw[hlen];omega,by rw[hlP];omega,by omega⟩
        ·have hv8':Value.slice (a8'.map (·.add j)) (m8' - j) (q8' - j)=v8n:=by have:=HV8.out;rw[if_neg hqj] at this;exact this
         have HQJ:=zH hv8';clear hv8' HV8;go_upto_region 25 with (fail);obtain⟨W0,hW0⟩:∃W0,wr.drew=W0:=⟨_,rfl⟩;have cd:Chg [] wr W0:=by rw[←hW0];exact (Chg.refl _ _).drew
         refine wp_region_U [] (fun i=>decide (6≤i)) (by kernel_rfl) ?_;rw[hW0];clear hW0;have C0:Chg [] W0 W0:=Chg.refl _ _;have hR0:=HE.out.2.2.2.2.1.chg0 cd;obtain⟨⟨-,y1,-⟩,-⟩:=hR0.blk.c3b;have x0':=cd.cell_some x0 (by simp);have x1':=cd.cell_some x1 (by simp);clear x0 x1;refine tU 0 (.pointer (some ⟨g,0,none⟩)) C0 (fun w4 c4=>?_) ?_;·go_simp
         refine yG ?_;refine tU 1 (.pointer (some ⟨g,0,none⟩)) C0 (fun w4 c4=>?_) ?_;·go_simp
         refine yG ?_;refine tU 2 (.pointer (some ⟨g,1,none⟩)) C0 (fun w4 c4=>?_) ?_;·go_simp
         refine yG ?_;refine tU 3 (.map (some bl)) C0 (fun w4 c4=>?_) ?_
         ·have z:=c4.cell_some y1 (by simp);go_simp
         refine yG ?_;refine tU 4 (.string (str s)) C0 (fun w4 c4=>?_) ?_;·go_simp
         refine yG ?_;refine tU 5 (.agg #[.int .i64 n,.slice ax j qx]) C0 (fun w4 c4=>?_) ?_
         ·have z:=c4.cell_some x0' (by simp);have z1:=c4.cell_some x1' (by simp);go_simp
         refine yG ?_;have hmemS:=HR.out.2.1;have hL4:L'.length≤1000000:=by have h1:=HE.out.2.2.2.2.2.2.2.2.2.2.2.2.2.small.2.2;have h2:=HR.out.2.2.2.2.2.2.2.2.2.2.2.1;omega
         obtain⟨w7,r7,m7,k7⟩:=hR0.files.put s (HH.out.2.2.2.2.1 _ hmemS).1 (by simp) hL4 (HE.out.2.2.2.2.2.1.chg cd (by simp));have hR7:=hR0.putL k7 m7;refine wpAnyU_last 6 rfl (by kernel_rfl) (by rfl) (by rfl) ?_;refine wp_upd _ _ _ 93 rfl rfl rfl rfl r7 ?_;refine yG ?_;refine wpAny_fin (by kernel_rfl) ?_ _;have H7:=zA hR7 (cd.toS.tr k7);clear hR7 m7 k7 r7 hR0 y1 x0' x1' C0 cd hL4 hmemS;have e9:wrap64 ((i0:Int)+1)=((i0+1:Nat):Int):=by have h1:=HR.out.2.2.2.2.2.2.2.2.2.2.2.1;unfold wrap64;omega
         have e9w:=wIq e9;go_wp2_with fail;go_roundg (g4' - 1);case measure=>have h1:=HE.out.2.2.2.2.2.2.2.2.2.2.2.2.1;have h2:=HR.out.1;omega
         case rel=>
          obtain⟨hfy,hpy,hcy,hny,hwork,hxV,h9lt,cN6,hold,hw2,hw2N,hv8,hik,hPI⟩:=HE.out;have hcm:=HR.out.2.2.2.2.2.2.2.2.2.1;have hm8:=HR.out.2.2.2.2.1;have hlen:(fr'.drop j).length=m8' - j:=by rw[List.length_drop,hm8]
          obtain⟨hdr,hdo⟩:=HDR.out;rw[←HQJ.out] at hdr hdo;have hbk:(blockP (firstF F) b ks).length=j:=by simp[blockP,HK.out.2]
          rw[List.take_of_length_le (by rw[hbk];exact Nat.le_refl _)] at hpy;have hdrop:=HR.out.2.2.1;have hnn:=HR.out.2.2.2.2.2.2.1;have hcc:=HR.out.2.2.2.2.2.2.2.1;have hroom:=HR.out.2.2.2.2.2.2.2.2.2.2.2.2.1;have hblold:bl<w.heap.size:=hold bl (by simp);have hw2s:=H8.out.2.2.size;have hlP:(P++blockP (firstF F) b ks).length=m9+j:=by rw[List.length_append,hbk,HR.out.2.2.2.2.2.1]
          have h9n:=HP.out.2.1.new;rw[HR.out.2.2.2.2.2.1] at h9n;refine⟨i0+1,fr'.drop j,P++blockP (firstF F) b ks,insK s ⟨n,ks⟩ L',ys,by simp,?_,?_,by omega,⟨?_,?_,H7.out.1,?_,?_,?_,?_,?_,?_⟩⟩;·rw[hlen];exact hdr
          ·rw[hlP];exact hfy.chg H7.out.2 (fun t ht ht'=>by simp at ht';subst ht';have:=hfy.new _ ht;omega)
          ·exact hdo
          ·exact hpy.upd ⟨H7.out.2.mono (fun t ht=>.inl (by simp at ht;simp[ht])),fun t ht=>.inl ht⟩
          ·exact ((hPI.chg.nil cN6).trans hcy (fun t ht=>.inr (h9n t ht))).tr H7.out.2
          ·rw[hPI.puts,hdrop];show P++(blockP (firstF F) b (fr'.take (cnt b.length))++placeP (firstF F) (W.fresh.drop (i0+1)) (fr'.drop (cnt b.length)))=_;rw[hnn,hcc,HK.out.1,List.append_assoc]
          ·rw[hPI.files,hdrop];show placeF (W.fresh.drop (i0+1)) (fr'.drop (cnt b.length)) (insK s ⟨b.length,fr'.take (cnt b.length)⟩ L')=_;rw[hnn,hcc,HK.out.1]
          ·rw[hlen];omega
          ·exact fun k hk=>hPI.bound k (List.mem_of_mem_drop hk)
          ·have h1:=hPI.small;have h2:=ins_length_le s (⟨n,ks⟩:FileD) L';have h3:=HR.out.2.2.2.2.2.2.2.2.1.2.1;have h4:=HR.out.2.2.2.2.2.1;rw[hm8] at h1;refine⟨by rw[hlen];omega,by rw[hlP];omega,by omega⟩
     ·have t0:decide ((i:Int)<(N:Int))=false:=by simp;omega
      have t0':decide (i<N)=false:=by simp;omega
      obtain⟨hv8,hf9,hik,hPI⟩:=HP.out;have hiN:i=N:=by omega
      obtain⟨a9,q9,rfl,-⟩:=hf9.shape;obtain⟨m9,hm9⟩:∃m,P.length=m:=⟨_,rfl⟩;have hd0:W.fresh.drop i=[]:=List.drop_eq_nil_of_le (by rw[HH.out.2.2.2.2.2.2.2.2.2];omega);have hp0:=hPI.puts;have hf0:=hPI.files;rw[hd0] at hp0 hf0;have hp1:placeP (firstF F) W.fresh (freeF F)=P:=by rw[HFR.out.1,hp0];exact List.append_nil _
      have hf1:placeF W.fresh (freeF F) W.files=L':=by rw[HFR.out.2,hf0];rfl
      have HE:=zC hp1 hf1 hf9 hPI;clear hv8 hf9 hik hPI hiN hd0 hp0 hf0 hp1 hf1 hm9 hi;go_wp2_with fail;go_ret2;obtain⟨hp1,hf1,hf9,hPI⟩:=HE.out;refine .inr ⟨HQ.out.1,_,xs,rfl,?_,?_,?_,?_⟩;·rw[hp1];exact hf9.back H8.out.2.2.size
      ·rw[hp1];exact hPI.pend.upd ⟨Chg.refl _ _,fun t ht=>.inl (List.mem_append_right _ ht)⟩
      ·rw[hf1];exact hPI.work.wide fun t ht=>.inl (List.mem_append_right _ ht)
      ·exact H8.out.2.2.toS.tr hPI.chg
end Go.Proofs.YtlbdklaggalgfaaGreatDoor
