/- StD StE -/
import Derived.Test.YtlidiclfpklliaaGreatDoorG32
set_option linter.unusedSimpArgs false
set_option linter.unusedVariables false
set_option maxHeartbeats 4000000
namespace Go.Aq.Fy
open Go.Aq Go.RowKit
theorem keysV_step (ns:List Nm) (i:Nat) (s:Nm) (h:ns[i]?=some s):(ns.take (i+1)).filterMap cutS=(ns.take i).filterMap cutS++(match cutS s with | some k=>[k] | none=>[]):=by
 rw[List.take_add_one,h]
 simp only[Option.toList,List.filterMap_append,List.filterMap_cons,List.filterMap_nil]
 cases cutS s <;> rfl
def cutP (s:Nm):Nm×Bool:=match s with | []=>([],false) | c::k=>if c=111 then (k,true) else (c::k,false)
theorem cutP_cut (s:Nm):cutS s=if (cutP s).2&&validB (cutP s).1 then some (cutP s).1 else none:=by
 cases s with
 | nil=>rfl
 | cons c k=>
  unfold cutS cutP
  by_cases h:c=111
  ·simp[h]
  ·simp[h]
theorem cutP_lib (s:Nm):Lib.trimPrefix s [111]=(cutP s).1∧Lib.hasPrefix s [111]=(cutP s).2:=by
 cases s with
 | nil=>exact⟨rfl,rfl⟩
 | cons c k=>
  unfold cutP Lib.trimPrefix Lib.hasPrefix
  by_cases h:c=111
  ·subst h;simp
  ·have:([111]:List UInt8).isPrefixOf (c::k)=false:=by simp[List.isPrefixOf];exact fun e=>h e.symm
   rw[this]
   simp[h]
end Go.Aq.Fy
namespace Go.Proofs.YtlidiclfpklliaaGreatDoor
open Go.RowKit Go.Aq Go.Aq.Fy Go.Maps
def GetE (w:World) (R:Sec×Nat) (e:Ending) (w':World):Prop:=
 (∃(ao:Option Addr) (n cap:Nat),e=.returned (.tuple #[.slice ao n cap,.int .i64 R.2])∧n=R.1.length∧Sees w' 1 (.slice ao n cap) n (Bs R.1))∧Chg [] w w'
theorem GetE.no {w w':World} {e:Nat} (c:Chg [] w w'):GetE w ([],e) (.returned (.tuple #[.slice none 0 0,.int .i64 e])) w':=⟨⟨none,0,0,rfl,rfl,Sees.nil _ _⟩,c⟩
theorem view_short {q:Nat} {F:FsD} (hI:FInv q F) {s:Nm} {b:Sec} (h:lookK s (viewF F)=some b):b.length≤65535:=by
 rw[look_viewS] at h
 obtain⟨x,hx,rfl⟩:=Option.map_eq_some_iff.1 h
 obtain⟨-,-,-,-,-,h6,h7⟩:=hI.at (look_mem hx)
 rw[h6]
 exact h7
set_option maxRecDepth 100000 in
theorem sget_ok {q:Nat} (w:World) (Sd X:List Nat) (f d l bf:Nat) (F:FsD) (h:FsR w Sd X f d l bf F) (hI:FInv q F) (k:Nm) (hk:k.length≤1000000):
  Calls Tryz.prog 29 #[.pointer (some ⟨f,0,none⟩),.string (str k)] w (GetE w (getS (viewF F) k)):=by
 have hva:=fun w'=>valid_any w' k hk
 have hpl:=fun w'=>splace_ok w' k (by omega)
 have hg:=fun w' (c:Chg [] w w')=>fgot_ok w' Sd X f d l bf F (h.chg0 c) hI (placeS k) (by unfold placeS;simp;omega)
 have hsh:∀b,lookK (placeS k) (viewF F)=some b→b.length≤65535:=fun b hb=>view_short hI hb
 obtain⟨R,hR⟩:∃R,getS (viewF F) k=R:=⟨_,rfl⟩
 rw[hR]
 unfold getS at hR
 generalize lookK (placeS k) (viewF F)=o at *
 clear h hI hk
 cases hv:validB k with
 | false=>
  rw[hv] at hva hR
  rw[if_pos rfl] at hR
  subst hR
  clear hv hpl hg hsh
  go_enter Tryz.func29,Tryz.ntmps29
  go_wp2_with fail
  refine (hva _).mono ?_
  rintro e w1 ⟨rfl,c1⟩
  clear hva
  have HC:=zH c1
  clear c1
  go_wp2_with fail
  go_ret2
  exact GetE.no HC.out
 | true=>
  rw[hv] at hva hR
  rw[if_neg (by decide)] at hR
  have HRR:=zH hR
  clear hv hR
  go_enter Tryz.func29,Tryz.ntmps29
  go_wp2_with fail
  refine (hva _).mono ?_
  rintro e w1 ⟨rfl,c1⟩
  have HC1:=zH c1
  clear hva c1
  go_wp2_with fail
  refine (hpl _).mono ?_
  rintro e w2 ⟨rfl,c2⟩
  have ct2:=HC1.out.nil c2
  have hg2:=hg w2 ct2
  have HC2:=zH ct2
  clear hpl hg c2 ct2
  go_wp2_with fail
  refine hg2.mono ?_
  rintro e w3 ⟨⟨ao,n,cap,er,rfl,hn,her,hs,-⟩,c3⟩
  have HC3:=zH (HC2.out.nil c3)
  clear hg2 c3
  cases o with
  | none=>
   simp only[Option.isSome,if_neg (by decide:¬(false=true))] at her
   subst her
   have hRe:R=([],6):=HRR.out.symm
   subst hRe
   clear hs hn
   go_wp2_with fail
   go_ret2
   exact GetE.no HC3.out
  | some b=>
   simp only[Option.isSome,if_true] at her
   subst her
   have hbl:=hsh b rfl
   have hky:=fun w' (c:Chg [] w3 w')=>key_any w' (.slice ao n cap) n b (hs.chg0 c) (by rw[hn];show b.length≤_;omega)
   have hk3:=hky w3 (Chg.refl _ _)
   have HS:=zA hs hn
   have HKD:Hid (hexL (Sha.sum b)=keyD b):=rfl
   rw[HKD.out] at hk3
   obtain⟨kd,hkd⟩:∃kd,keyD b=kd:=⟨_,rfl⟩
   rw[hkd] at hk3
   have HKE:=zH hkd
   clear hs hn hky hkd hbl hsh
   by_cases hkk:kd=k
   ·have q4:((str kd).toList==(str k).toList)=true:=by rw[str_eq];simp[hkk]
    have q4':((str kd).toList != (str k).toList)=false:=by simp only[bne,q4];rfl
    have hRe:Hid (R=(b,0)):=by show _=_;rw[←HRR.out];simp only;rw[HKE.out,if_pos hkk]
    clear hkk
    go_wp2_with fail
    refine hk3.mono ?_
    rintro e w4 ⟨rfl,c4⟩
    have HC4:=zH c4
    clear hk3 c4
    go_wp2_with fail
    go_ret2
    rw[hRe.out]
    exact⟨⟨ao,n,cap,rfl,HS.out.2,HS.out.1.chg0 HC4.out⟩,HC3.out.nil HC4.out⟩
   ·have q4:((str kd).toList==(str k).toList)=false:=by rw[str_eq];simp[hkk]
    have q4':((str kd).toList != (str k).toList)=true:=by simp only[bne,q4];rfl
    have hRe:Hid (R=([],5)):=by show _=_;rw[←HRR.out];simp only;rw[HKE.out,if_neg hkk]
    clear hkk
    go_wp2_with fail
    refine hk3.mono ?_
    rintro e w4 ⟨rfl,c4⟩
    have HC4:=zH c4
    clear hk3 c4
    go_wp2_with fail
    go_ret2
    rw[hRe.out]
    exact GetE.no (HC3.out.nil HC4.out)
set_option maxRecDepth 100000 in
theorem skeys_ok {q:Nat} (w:World) (Sd X:List Nat) (f d l bf:Nat) (F:FsD) (h:FsR w Sd X f d l bf F) (hI:FInv q F):
  Calls Tryz.prog 25 #[.pointer (some ⟨f,0,none⟩)] w fun e w'=>∃v,e=.returned v∧Fresh w w' 9 1 v (keysS (viewF F)).length (names (keysS (viewF F))):=by
 have hfew:F.files.length≤400:=hI.files.few
 have hls:=list_ok w Sd X f d l bf F h (by omega)
 obtain⟨ns,hns⟩:∃ns,F.files.map (·.1)=ns:=⟨_,rfl⟩
 have hnl:ns.length=F.files.length:=by rw[←hns];simp
 have hshort:∀s∈ns,s.length≤1000000:=fun s hs=>by
  rw[←hns] at hs
  obtain⟨p,hp,rfl⟩:=List.mem_map.1 hs
  have h1:=hI.files.name p hp
  unfold nameOk at h1
  simp only[Bool.and_eq_true,decide_eq_true_eq] at h1
  omega
 have hK:keysS (viewF F)=ns.filterMap cutS:=by unfold keysS;rw[viewF_names,hns]
 rw[hK]
 rw[hns] at hls
 obtain⟨n,hn⟩:∃n,F.files.length=n:=⟨_,rfl⟩
 rw[hn] at hls hnl hfew
 have HN:=zB hnl hfew hshort
 clear h hI hns hnl hshort hK hn hfew
 go_enter Tryz.func25,Tryz.ntmps25
 go_wp2_with fail
 refine hls.mono ?_
 rintro e w1 ⟨v1,rfl,hF1⟩
 have hs1:=hF1.own.sees
 obtain⟨ao1,cap1,rfl,-⟩:=hs1.shape
 have HF:=zA hF1.chg hs1
 clear hls hF1 hs1
 go_wp2_with fail
 go_loopg [3,11] n (fun gk v3 v11 wr=>∃(i m:Nat) (ao3:Option Addr) (cap3:Nat),v3=.slice ao3 m cap3∧v11=.int .i64 (i:Int)∧Hid (gk=n - i∧i≤n∧m≤i∧m=((ns.take i).filterMap cutS).length∧Fresh w1 wr 9 1 (.slice ao3 m cap3) m (names ((ns.take i).filterMap cutS))))
 case atStart=>exact⟨0,0,none,0,rfl,rfl,by omega,by omega,Nat.le_refl _,rfl,Fresh.nil _ _ _⟩
 case round=>
  obtain⟨i,m,ao3,cap3,rfl,rfl,HJ⟩:=hrel
  by_cases hin:i<n
  ·have t1:decide ((i:Int)<(n:Int))=true:=decide_eq_true (by omega)
   have t1':decide (i<n)=true:=decide_eq_true hin
   have hil:i<ns.length:=by rw[HN.out.1];exact hin
   obtain⟨s,hsi⟩:∃s,ns[i]?=some s:=⟨_,List.getElem?_eq_getElem hil⟩
   obtain⟨g',off',cap',e1,hle,-,hx⟩:=HF.out.2.cells (by omega)
   injection e1 with e1 _ e2
   subst e1 e2
   have x0:=hx i (by omega)
   have ex:(names ns)[i]?=some (.string (str s)):=by unfold names;rw[List.getElem?_map,hsi];rfl
   rw[ex] at x0
   have y0:=HJ.out.2.2.2.2.chg.cell_some x0 (by simp)
   have hcp:=fun w'=>Tryz.strings_CutPrefix (str s) ⟨#[111]⟩ w'
   have hlib:=cutP_lib s
   have e3:(str s).data.toList=s:=rfl
   have e4:(⟨#[111]⟩:ByteArray).data.toList=[111]:=rfl
   rw[e3,e4,hlib.1,hlib.2] at hcp
   obtain⟨ck,hck⟩:∃ck,(cutP s).1=ck:=⟨_,rfl⟩
   have hckl:ck.length≤1000000:=by
    have h1:=HN.out.2.2 s (List.mem_of_getElem? hsi)
    rw[←hck]
    unfold cutP
    split
    ·simp
    ·rename_i c k
     simp only[List.length_cons] at h1
     split <;> simp <;> omega
   have hva:=fun w'=>valid_any w' ck hckl
   have hst:=keysV_step ns i s hsi
   have hcc:=cutP_cut s
   have hwi:Hid (wrap64 ((i:Int)+1)=((i+1:Nat):Int)):=by show _=_;rw[show (i:Int)+1=((i+1:Nat):Int) by omega];exact w64 _ (by have:=HN.out.2.1;omega)
   rw[hck] at hcp hcc
   have eck:(⟨ck.toArray⟩:ByteArray)=str ck:=rfl
   rw[eck] at hcp
   clear hlib e3 e4 hck x0 hx ex hil hckl eck hle
   cases hb:(cutP s).2 with
   | false=>
    rw[hb] at hcp hcc
    simp only[Bool.false_and,Bool.false_eq_true,if_false] at hcc
    rw[hcc,List.append_nil] at hst
    have HST:=zA hst hin
    clear hb hcc hst hva
    go_wp2_with fail
    refine (hcp _).mono ?_
    rintro e w2 ⟨rfl,rfl⟩
    clear hcp y0
    go_wp2_with fail
    go_roundg (gk - 1)
    case measure=>have:=HJ.out.1;have:=HST.out.2;omega
    case rel=>exact⟨i+1,m,ao3,cap3,rfl,by rw[hwi.out],by have:=HJ.out.1;omega,HST.out.2,Nat.le_succ_of_le HJ.out.2.2.1,by rw[HST.out.1];exact HJ.out.2.2.2.1,by rw[HST.out.1];exact HJ.out.2.2.2.2⟩
   | true=>
    rw[hb] at hcp hcc
    simp only[Bool.true_and] at hcc
    cases hvk:validB ck with
    | false=>
     rw[hvk] at hcc hva
     simp only[Bool.false_eq_true,if_false] at hcc
     rw[hcc,List.append_nil] at hst
     have HST:=zA hst hin
     clear hb hcc hst hvk
     go_wp2_with fail
     refine (hcp _).mono ?_
     rintro e w2 ⟨rfl,rfl⟩
     clear hcp y0
     go_wp2_with fail
     refine (hva _).mono ?_
     rintro e w3 ⟨rfl,c3⟩
     have HC3:=zH c3
     clear hva c3
     go_wp2_with fail
     go_roundg (gk - 1)
     case measure=>have:=HJ.out.1;have:=HST.out.2;omega
     case rel=>exact⟨i+1,m,ao3,cap3,rfl,by rw[hwi.out],by have:=HJ.out.1;omega,HST.out.2,Nat.le_succ_of_le HJ.out.2.2.1,by rw[HST.out.1];exact HJ.out.2.2.2.1,by rw[HST.out.1];exact HJ.out.2.2.2.2.to HC3.out⟩
    | true=>
     rw[hvk] at hcc hva
     simp only[if_true] at hcc
     rw[hcc] at hst
     have HST:=zA hst hin
     clear hb hcc hst hvk
     go_wp2_with fail
     refine (hcp _).mono ?_
     rintro e w2 ⟨rfl,rfl⟩
     clear hcp y0
     go_wp2_with fail
     refine (hva _).mono ?_
     rintro e w3 ⟨rfl,c3⟩
     have hF3:=HJ.out.2.2.2.2.to c3
     have hO3:=hF3.own
     have HF3:=zH hF3
     clear hva c3 hF3
     go_wp2_with (first
      | (at_builtin;refine wpList_push rfl _ _ 33 rfl sl_keys hO3 rfl rfl rfl (by have:=HN.out.2.1;have:=HJ.out.2.2.1;have:=HJ.out.2.1;omega) (by have:=HN.out.2.1;have:=HJ.out.2.2.1;have:=HJ.out.2.1;omega) ?_;intro g6 cp6 w6 ho6 c6 hg6 hcp6 hgl6)
      | fail)
     have HO6:=zH (HF3.out.app ho6 c6 (fun k hk=>by simp[Value.ownBlock] at hk;subst hk;exact hg6))
     clear hO3 ho6 c6 hg6 hcp6 hgl6
     go_wp2_with fail
     go_roundg (gk - 1)
     case measure=>have:=HJ.out.1;have:=HST.out.2;omega
     case rel=>
      have e:names ((ns.take i).filterMap cutS++[ck])=names ((ns.take i).filterMap cutS)++[.string (str ck)]:=by simp[names]
      exact⟨i+1,m+1,_,cp6,rfl,by rw[hwi.out],by have:=HJ.out.1;omega,HST.out.2,Nat.succ_le_succ HJ.out.2.2.1,by rw[HST.out.1,List.length_append,←HJ.out.2.2.2.1];rfl,by rw[HST.out.1,e];exact HO6.out⟩
  ·have t1:decide ((i:Int)<(n:Int))=false:=decide_eq_false (by omega)
   have t1':decide (i<n)=false:=decide_eq_false hin
   have hi:i=n:=by have:=HJ.out.2.1;omega
   have HH:=zH hi
   clear hi hin
   go_wp2_with fail
   go_ret
   have hT:ns.take i=ns:=List.take_of_length_le (by rw[HN.out.1,HH.out];exact Nat.le_refl _)
   have h1:=HJ.out.2.2.2.2
   have h2:=HJ.out.2.2.2.1
   rw[hT] at h1 h2
   refine⟨_,rfl,?_⟩
   rw[←h2]
   exact h1.back HF.out.1
theorem splace_same (w:World) (k:Nm) (hk:k.length≤1048576):Calls Tryz.prog 27 #[.string (str k)] w fun e w'=>e=.returned (.string (str (placeS k)))∧w'=w:=by
 have r:=fun w=>run_catS (P:=Tryz.prog) (str_place k) (by rw[str_size];show 1+_≤_;omega) w
 clear hk
 go_enter Tryz.func27,Tryz.ntmps27
 go_wp2_with fail
 go_ret
 exact⟨rfl,rfl⟩
inductive DatC (w:World) (T:List Nat):View→List Value→Prop
 | nil:DatC w T [] []
 | cons {k:Nm} {b:Sec} {l:View} {dv:Value} {xs:List Value}:Sees w 1 dv b.length (Bs b)→Disj (eyes dv) T→DatC w T l xs→DatC w T ((k,b)::l) (.int .i64 1:: .string (str (placeS k)):: .string (str [])::dv::xs)
theorem DatC.snoc {w:World} {T:List Nat} {k:Nm} {b:Sec} {dv:Value} (h1:Sees w 1 dv b.length (Bs b)) (h2:Disj (eyes dv) T):∀{l:View} {xs:List Value},DatC w T l xs→DatC w T (l++[(k,b)]) (xs++[.int .i64 1,.string (str (placeS k)),.string (str []),dv])
 | _,_,.nil=>.cons h1 h2 .nil
 | _,_,.cons a1 a2 a3=>.cons a1 a2 (DatC.snoc h1 h2 a3)
theorem DatC.chg {w w':World} {S T:List Nat} (c:Chg S w w') (hS:∀k∈S,k∈T∨w.heap.size≤k):∀{l:View} {xs:List Value},DatC w T l xs→DatC w' T l xs
 | _,_,.nil=>.nil
 | _,_,.cons a1 a2 a3=>.cons (a1.chg c (fun k hk hk'=>by
   rcases hS k hk' with h | h
   ·exact a2 k hk h
   ·have:=a1.lt (by decide) k hk;omega)) a2 (DatC.chg c hS a3)
theorem DatC.turn {w:World} {T T':List Nat} (hT:∀k∈T',k∈T∨w.heap.size≤k):∀{l:View} {xs:List Value},DatC w T l xs→DatC w T' l xs
 | _,_,.nil=>.nil
 | _,_,.cons a1 a2 a3=>.cons a1 (fun k hk hk'=>by
   rcases hT k hk' with h | h
   ·exact a2 k hk h
   ·have:=a1.lt (by decide) k hk;omega) (DatC.turn hT a3)
theorem DatC.cells {w:World} {T:List Nat}:∀{l:View} {xs:List Value},DatC w T l xs→CellsC w (changesS l) xs
 | _,_,.nil=>.nil
 | _,_,.cons a1 a2 a3=>.cons (c:=⟨1,placeS _,[],_⟩) a1 (DatC.cells a3)
theorem sl_fchg:SliceTy Tryz.prog 22 63 (.agg #[.int .i64 0,.string ⟨#[]⟩,.string ⟨#[]⟩,.slice none 0 0]) 4 64:=⟨Tryz.underlying22,by kernel_rfl,rfl,by decide⟩
structure ChsI (w0 wr:World) (v:Value) (l:View) (xs:List Value):Prop where
 own:Aq.Own wr 63 4 v l.length xs
 dat:DatC wr v.ownBlock.toList l xs
 chg:Chg [] w0 wr
 new:∀k∈v.ownBlock.toList,w0.heap.size≤k
theorem ChsI.nil (w0:World):ChsI w0 w0 (.slice none 0 0) [] []:=⟨Aq.Own.nil _ _ _,.nil,Chg.refl _ _,by simp[Value.ownBlock]⟩
set_option maxRecDepth 100000 in
theorem schanges_ok (w:World) (p bm:Nat) (st:View) (hS:StgR w p bm st) (hst:st.length≤1000) (hb:∀q∈st,q.2.length≤1000000):
  Calls Tryz.prog 20 #[.pointer (some ⟨p,0,none⟩)] w fun e w'=>∃v xs,e=.returned v∧Sees w' 4 v (changesS st).length xs∧CellsC w' (changesS st) xs∧Chg [] w w':=by
 have x0:w.cell? ⟨p,0,none⟩=some (.map (some bm)):=hS.blk.cell 0
 obtain⟨l,hM,hT⟩:=hS.fresh
 have hsz:Maps.size (datS l)=st.length:=by rw[datS_size,hT.len]
 have hks:=hT.keys
 have hasc:=hM.asc
 have hlen:=hT.len
 have hown:=hM.owns
 have hasc2:Asc st:=by
  have h:(l.map (·.1)).Pairwise (·<·):=List.pairwise_map.2 hasc
  rw[←hks] at h
  exact List.pairwise_map.1 h
 obtain⟨n,hn⟩:∃n,st.length=n:=⟨_,rfl⟩
 rw[hn] at hsz hst
 have HH:=zH (And.intro hS.blk (And.intro hM (And.intro hT (And.intro hn (And.intro hst (And.intro hb (And.intro hks (And.intro hasc (And.intro hlen hasc2)))))))))
 clear hS hM hT hb hks hasc hlen hasc2 hn
 go_enter Tryz.func20,Tryz.ntmps20
 go_wp2_with (first
  | (go_at_call 58;refine (callsIn_wide.1 (Tryz.maps_Keys_58 _ _)).mono ?_;rintro e w' ⟨rfl,rfl⟩)
  | (go_at_call 57;refine (callsIn_wide.1 (Tryz.slices_Sorted_keys_57_58 bm l.length (datS l) heldR w hown (by rw[hsz];unfold maxLen;omega) (by rw[hsz];omega))).mono ?_;rintro e w1 ⟨v1,ss,rfl,hSS,hrow,hnil,hbw⟩;obtain⟨e1,e2⟩:=keys_sorted HH.out.2.2.2.2.2.2.2.1 hSS;have hks:=HH.out.2.2.2.2.2.2.1;have hlen:=HH.out.2.2.2.2.2.2.2.2.1;rw[e1,e2,enc_names,←hks,←hlen,HH.out.2.2.2.1] at hrow;have hF:=(Fresh.of_owns hrow hbw).back ((Chg.refl _ _).alloc _);have hs1:=hF.own.sees;obtain⟨ao1,cap1,rfl,-⟩:=hs1.shape;have HF:=zA hF.chg hs1;clear hSS hrow hnil hbw e1 e2 hks hlen hF hs1))
 clear hown x0 hsz
 go_loopg [3,13] n (fun gk v3 v13 wr=>∃(i:Nat) (ao3:Option Addr) (cap3:Nat) (xs:List Value),v3=.slice ao3 i cap3∧v13=.int .i64 (i:Int)∧Hid (gk=n - i∧i≤n∧ChsI w1 wr (.slice ao3 i cap3) (st.take i) xs))
 case atStart=>exact⟨0,none,0,[],rfl,rfl,by omega,by omega,ChsI.nil _⟩
 case round=>
  obtain⟨i,ao3,cap3,xs,rfl,rfl,HJ⟩:=hrel
  by_cases hin:i<n
  ·have t1:decide ((i:Int)<(n:Int))=true:=decide_eq_true (by omega)
   have t1':decide (i<n)=true:=decide_eq_true hin
   have hil:i<st.length:=by rw[HH.out.2.2.2.1];exact hin
   obtain⟨q,hq⟩:∃q,st[i]?=some q:=⟨_,List.getElem?_eq_getElem hil⟩
   obtain⟨k,b⟩:=q
   have hmem:(k,b)∈st:=List.mem_of_getElem? hq
   have hlk:lookK k st=some b:=look_of_mem HH.out.2.2.2.2.2.2.2.2.2 hmem
   obtain⟨y,hly,hy⟩:∃y,lookK k l=some y∧BytesV w [p,bm] b y:=by
    rcases HH.out.2.2.1.look k with ⟨a1,-⟩ | ⟨x,y,a1,a2,a3⟩
    ·rw[a1] at hlk;cases hlk
    ·rw[a1] at hlk;cases hlk;exact⟨y,a2,a3⟩
   obtain⟨ay,cy,rfl,-⟩:=hy.1.shape
   have hkl:k.length≤1048576:=HH.out.2.1.short (k,_) (look_mem hly)
   have hbl:b.length≤1000000:=HH.out.2.2.2.2.2.1 _ hmem
   obtain⟨g',off',cap',e1,hle,-,hx⟩:=HF.out.2.cells (by omega)
   injection e1 with e1 _ e2
   subst e1 e2
   have x0:=hx i (by omega)
   have ex:(names (st.map (·.1)))[i]?=some (.string (str k)):=by unfold names;rw[List.getElem?_map,List.getElem?_map,hq];rfl
   rw[ex] at x0
   have y0:=HJ.out.2.2.chg.cell_some x0 (by simp)
   have hwi:Hid (wrap64 ((i:Int)+1)=((i+1:Nat):Int)):=by show _=_;rw[show (i:Int)+1=((i+1:Nat):Int) by omega];exact w64 _ (by have:=HH.out.2.2.2.2.1;omega)
   have hts:st.take (i+1)=st.take i++[(k,b)]:=by rw[List.take_add_one,hq];rfl
   have htl:(st.take i).length=i:=by rw[List.length_take];omega
   obtain⟨bl,hbl2⟩:∃bl,b.length=bl:=⟨_,rfl⟩
   rw[hbl2] at hbl
   have HP:=zG hin hts htl hly hy hkl hbl hbl2
   have hpl:=fun w'=>splace_same w' k hkl
   clear hil hq hmem hlk hkl hle x0 hx ex hts htl hly hy hbl
   clear hbl2
   go_upto_region 5 with (fail)
   have ctr:Chg [] w wr:=HF.out.1.nil HJ.out.2.2.chg
   have cd:Chg [] wr wr.drew:=(Chg.refl _ _).drew
   obtain⟨S,hS⟩:∃S,(Value.slice ao3 i cap3).ownBlock.toList=S:=⟨_,rfl⟩
   have hSn:∀k∈S,w.heap.size≤k:=fun k hk=>by
    have h1:=HJ.out.2.2.new k (by rw[hS];exact hk)
    have h2:=HF.out.1.size
    omega
   have hOE:=Aq.Own.chg HJ.out.2.2.own cd (fun _ _=>by simp)
   rw[HP.out.2.2.1] at hOE
   have hDE:=HJ.out.2.2.dat.chg cd (by simp)
   rw[hS] at hDE
   have HCD:=zB (ctr.nil cd) (HJ.out.2.2.chg.nil cd) hSn
   have HS:=zH hS
   have HDE:=zH hDE
   have HDJ:Hid (∀k∈S,k<wr.drew.heap.size∧w1.heap.size≤k):=fun k hk=>⟨Aq.Own.lt hOE k (by rw[hS];exact hk),HJ.out.2.2.new k (by rw[hS];exact hk)⟩
   refine wp_region_E S (by kernel_rfl) ?_
   clear ctr cd hSn hS hDE y0
   generalize wr.drew=wE at *
   have C0:Chg S wE wE:=Chg.refl _ _
   have hcell:∀w4,Chg S wE w4→w4.cell? ⟨p,0,none⟩=some (.map (some bm)):=fun w4 c4=>(HH.out.1.chg0 (HCD.out.1.trans c4 (fun k hk=>.inr (HCD.out.2.2 k hk)))).cell 0
   have hlook:∀w4,Chg S wE w4→(Instr.lookup 87 (.map (some bm)) (.string (str k)) false).run Tryz.prog w4=.ok (.slice ay bl cy) w4:=fun w4 c4=>by
    have h:=((HH.out.2.1.chg0 (HCD.out.1.trans c4 (fun k hk=>.inr (HCD.out.2.2 k hk)))).look keyS Tryz.underlying87 (zeroB8 w4) k HP.out.2.2.2.2.2.1).1
    rw[HP.out.2.2.2.1,HP.out.2.2.2.2.2.2.2] at h
    exact h
   refine tE 0 (.slice ao3 i cap3) C0 (fun w4 c4=>?_) ?_
   ·go_simp
   try simp only[Act.put,yA,yB,yC,yD,yE,yF]
   refine tE 1 (.string (str k)) C0 (fun w4 c4=>?_) ?_
   ·go_simp
   try simp only[Act.put,yA,yB,yC,yD,yE,yF]
   refine wpAnyE_call 2 (v:=(.string (str (placeS k)))) C0 rfl (by kernel_rfl) (by kernel_rfl) (by kernel_rfl) (fun _ _ _ h=>h) (by rfl) (fun w4 c4=>?_) (fun w4 c4=>hpl w4) ?_
   ·go_simp
   try simp only[Act.put,yA,yB,yC,yD,yE,yF]
   refine tE 3 (.pointer (some ⟨p,0,none⟩)) C0 (fun w4 c4=>?_) ?_
   ·go_simp
   try simp only[Act.put,yA,yB,yC,yD,yE,yF]
   refine tE 4 (.pointer (some ⟨p,0,none⟩)) C0 (fun w4 c4=>?_) ?_
   ·go_simp
   try simp only[Act.put,yA,yB,yC,yD,yE,yF]
   refine tE 5 (.pointer (some ⟨p,0,none⟩)) C0 (fun w4 c4=>?_) ?_
   ·go_simp
   try simp only[Act.put,yA,yB,yC,yD,yE,yF]
   refine tE 6 (.map (some bm)) C0 (fun w4 c4=>?_) ?_
   ·have z:=hcell w4 c4
    go_simp
   try simp only[Act.put,yA,yB,yC,yD,yE,yF]
   refine tE 7 (.string (str k)) C0 (fun w4 c4=>?_) ?_
   ·go_simp
   try simp only[Act.put,yA,yB,yC,yD,yE,yF]
   refine tE 8 (.slice ay bl cy) C0 (fun w4 c4=>?_) ?_
   ·have z:=hlook w4 c4
    go_simp
   try simp only[Act.put,yA,yB,yC,yD,yE,yF]
   have HC0:=zH C0
   clear C0 hcell hlook hpl
   refine oE 9 ?_
   go_simp
   have hyE:=HP.out.2.2.2.2.1.1.chg0 HCD.out.1
   rw[HP.out.2.2.2.2.2.2.2] at hyE
   refine (shaclone_any wE _ bl b hyE (by have:=HP.out.2.2.2.2.2.2.1;omega)).mono ?_
   rintro e w9 ⟨v9,rfl,hf9⟩
   refine⟨hf9.chg.toS,?_⟩
   have hs9:=hf9.own.sees
   have hn9:∀k∈eyes v9,wE.heap.size≤k:=fun k hk=>hf9.new k (eyes_own _ k hk)
   obtain⟨ao9,cap9,rfl,-⟩:=hs9.shape
   have hO9:=Aq.Own.chg hOE hf9.chg (fun _ _=>by simp)
   have hD9:=HDE.out.chg hf9.chg (by simp)
   have HF9:=zC hs9 hn9 hf9.chg hD9
   have c9S:Chg S wE w9:=hf9.chg.toS
   clear hs9 hn9 hf9 hD9 hyE hOE
   try simp only[Act.put,yA,yB,yC,yD,yE,yF]
   refine tE 10 (.agg #[.int .i64 1,.string (str (placeS k)),.string ⟨#[]⟩,.slice ao9 bl cap9]) c9S (fun w4 c4=>?_) ?_
   ·go_simp
   try simp only[Act.put,yA,yB,yC,yD,yE,yF]
   have HC9:=zH c9S
   clear c9S
   refine oE 11 ?_
   go_simp
   have hs11:Sees (w9.alloc (.cells #[.int .i64 1,.string (str (placeS k)),.string ⟨#[]⟩,.slice ao9 bl cap9] 63)) 4 (.slice (some ⟨w9.heap.size,0,none⟩) 1 1) 1 [.int .i64 1,.string (str (placeS k)),.string (str []),.slice ao9 bl cap9]:=Sees.blk (Blk.new w9 #[.int .i64 1,.string (str (placeS k)),.string ⟨#[]⟩,.slice ao9 bl cap9] 63)
   have c11:Chg [] w9 (w9.alloc (.cells #[.int .i64 1,.string (str (placeS k)),.string ⟨#[]⟩,.slice ao9 bl cap9] 63)):=(Chg.refl _ _).alloc _
   have hO11:=Aq.Own.chg hO9 c11 (fun _ _=>by simp)
   have c11S:=HC9.out.nil c11
   refine⟨c11S,?_⟩
   have HC11:=zA c11 c11S
   generalize w9.alloc (.cells #[.int .i64 1,.string (str (placeS k)),.string ⟨#[]⟩,.slice ao9 bl cap9] 63)=w11 at *
   obtain⟨A8,hA8⟩:∃A8,w9.heap.size=A8:=⟨_,rfl⟩
   rw[hA8] at hs11
   try rw[hA8]
   clear hA8 c11 c11S hO9
   try simp only[Act.put,yA,yB,yC,yD,yE,yF]
   refine oE 12 ?_
   refine wp_app _ _ 22 rfl sl_fchg hO11 rfl hs11 rfl (by simp[Value.oneCell']) (by have:=HH.out.2.2.2.2.1;have:=HP.out.1;omega) (by have:=HH.out.2.2.2.2.1;have:=HP.out.1;omega) ?_
   intro v12 w12 ho12 c12 n12
   rw[HS.out] at c12 n12
   have c12S:=HC11.out.2.tr c12
   refine⟨c12S,?_⟩
   obtain⟨ao12,cap12,rfl,-⟩:=ho12.sees.shape
   have HO:=zC ho12 c12 n12 c12S
   clear ho12 c12 n12 hs11 hO11
   try simp only[Act.put,yA,yB,yC,yD,yE,yF]
   refine tE 13 (.slice ao12 (i+1) cap12) c12S (fun w4 c4=>?_) ?_
   ·go_simp
   try simp only[Act.put,yA,yB,yC,yD,yE,yF]
   refine wpAnyE_done (by kernel_rfl) ?_ _
   clear c12S
   go_wp2_with fail
   go_roundg (gk - 1)
   case measure=>have:=HJ.out.1;have:=HP.out.1;omega
   case rel=>
    have hd11:=HF9.out.2.2.2.chg HC11.out.1 (by simp)
    have hs11:=(HF9.out.1).chg0 HC11.out.1
    have hdj:Disj (eyes (.slice ao9 bl cap9)) S:=fun k hk hk'=>by
     have h1:=HF9.out.2.1 k hk
     have h2:=(HDJ.out k hk').1
     omega
    have hd12:=hd11.chg HO.out.2.1 (fun k hk=>.inl hk)
    have hs12:=hs11.chg HO.out.2.1 (fun k hk hk'=>hdj k hk hk')
    have hsz:w11.heap.size≤w12.heap.size:=HO.out.2.1.size
    have hn11:∀k∈(Value.slice ao12 (i+1) cap12).ownBlock.toList,k∈S∨w11.heap.size≤k:=HO.out.2.2.1
    have hE11:wE.heap.size≤w11.heap.size:=HC11.out.2.size
    have h1E:w1.heap.size≤wE.heap.size:=HCD.out.2.1.size
    have hlt11:=hs11.lt (by decide)
    have hdT:=((hd11.turn (T':=S++(Value.slice ao12 (i+1) cap12).ownBlock.toList) (fun k hk=>by
     rcases List.mem_append.1 hk with h | h
     ·exact .inl h
     ·exact hn11 k h)).chg HO.out.2.1 (fun k hk=>.inl (List.mem_append_left _ hk))).turn (T':=(Value.slice ao12 (i+1) cap12).ownBlock.toList) (fun k hk=>.inl (List.mem_append_right _ hk))
    refine⟨i+1,ao12,cap12,xs++[.int .i64 1,.string (str (placeS k)),.string (str []),.slice ao9 bl cap9],rfl,by first | rfl | rw[hwi.out],by have:=HJ.out.1;omega,HP.out.1,?_,?_,?_,?_⟩
    ·rw[HP.out.2.1,List.length_append,HP.out.2.2.1]
     exact HO.out.1
    ·rw[HP.out.2.1]
     refine DatC.snoc (by rw[HP.out.2.2.2.2.2.2.2];exact hs12) (fun k hk hk'=>?_) hdT
     have h1:=HF9.out.2.1 k hk
     have h2:=hlt11 k hk
     rcases hn11 k hk' with h | h
     ·have:=(HDJ.out k h).1;omega
     ·omega
    ·exact (HCD.out.2.1).trans HO.out.2.2.2 (fun k hk=>.inr (HDJ.out k hk).2)
    ·intro k hk
     rcases hn11 k hk with h | h
     ·exact (HDJ.out k h).2
     ·omega
  ·have t1:decide ((i:Int)<(n:Int))=false:=decide_eq_false (by omega)
   have t1':decide (i<n)=false:=decide_eq_false hin
   have hi:i=n:=by have:=HJ.out.2.1;omega
   have HI:=zH hi
   clear hi hin
   go_wp2_with fail
   go_ret
   have hT:st.take i=st:=List.take_of_length_le (by rw[HH.out.2.2.2.1,HI.out];exact Nat.le_refl _)
   have h1:=HJ.out.2.2
   rw[hT] at h1
   have hcl:(changesS st).length=i:=by unfold changesS;rw[List.length_map,HH.out.2.2.2.1,HI.out]
   have hst:st.length=i:=by rw[HH.out.2.2.2.1,HI.out]
   refine⟨_,xs,rfl,?_,h1.dat.cells,HF.out.1.nil h1.chg⟩
   rw[hcl]
   have h2:=h1.own
   rw[hst] at h2
   exact h2.sees
end Go.Proofs.YtlidiclfpklliaaGreatDoor
