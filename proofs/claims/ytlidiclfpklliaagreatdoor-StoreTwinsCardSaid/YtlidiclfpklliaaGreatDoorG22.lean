/- ObRef ObRef2 -/
import Derived.Test.YtlidiclfpklliaaGreatDoorG21
set_option linter.unusedSimpArgs false
set_option linter.unusedVariables false
namespace Go.Aq
def kindO (b:List UInt8):Nat:=match parseO b with
 | some o=>o.kind
 | none=>0
theorem kindO_of {o:ObjD} (hs:o.short) (h:o.bytes≠[]):kindO o.bytes=o.kind:=by unfold kindO;rw[parse_back o hs h]
theorem kindO_some {b:List UInt8} {k:Nat} (h:kindO b=k) (h0:k≠0):∃o:ObjD,o.short∧o.bytes=b∧o.bytes≠[]∧o.kind=k:=by
 unfold kindO at h
 cases hp:parseO b with
 | none=>rw[hp] at h;exact absurd h.symm h0
 | some o=>
  rw[hp] at h
  have h1:=parse_bytes hp
  refine⟨o,parse_short hp,h1,fun e=>?_,h⟩
  rw[h1] at e
  subst e
  simp[parseO,readO] at hp
theorem beB_val2 (x0 x1:UInt8):beB (beVal [x0,x1]) 2=[x0,x1]:=by
 have e:beVal [x0,x1]=256 * x0.toNat+x1.toNat:=by simp only[beVal,List.foldl_cons,List.foldl_nil];omega
 have h0:=x0.toNat_lt
 have h1:=x1.toNat_lt
 have e1:UInt8.ofNat (256 * x0.toNat+x1.toNat)=x1:=by
  apply UInt8.toNat_inj.1
  rw[UInt8.toNat_ofNat']
  omega
 have e0:UInt8.ofNat ((256 * x0.toNat+x1.toNat) / 256)=x0:=by
  apply UInt8.toNat_inj.1
  rw[UInt8.toNat_ofNat']
  omega
 rw[e]
 simp[beB,leBy,List.range_succ,e0,e1]
theorem ofNat_toNat (x:UInt8):UInt8.ofNat x.toNat=x:=UInt8.ofNat_toNat
def shp6 (t:List UInt8):ShpD:=⟨((beVal (t.take 2):Nat):Int),((beVal ((t.drop 2).take 2):Nat):Int),(((t.getD 4 0).toNat:Nat):Int),(((t.getD 5 0).toNat:Nat):Int)⟩
def chunkN:Nat→List UInt8→List (List UInt8)
 | 0,_=>[]
 | n+1,t=>hexL (t.take 32)::chunkN n (t.drop 32)
theorem raw_hex (c:List UInt8):rawK (hexL c)=c:=by unfold rawK;rw[unhex_hex];rfl
theorem raw_chunks:∀(n:Nat) (t:List UInt8),t.length=32 * n→rawKs (chunkN n t)=t
 | 0,t,h=>by have:t=[]:=List.length_eq_zero_iff.1 (by omega);subst this;rfl
 | n+1,t,h=>by
  show rawK (hexL (t.take 32))++rawKs (chunkN n (t.drop 32))=t
  rw[raw_hex,raw_chunks n _ (by rw[List.length_drop];omega),List.take_append_drop]
theorem rawKs_cons (k:List UInt8) (l:List (List UInt8)):rawKs (k::l)=rawK k++rawKs l:=rfl
theorem rawKs_len:∀l:List (List UInt8),validAll l=true→(rawKs l).length=32 * l.length
 | [],_=>rfl
 | k::l,h=>by
  unfold validAll at h
  simp only[List.all_cons,Bool.and_eq_true] at h
  rw[rawKs_cons,List.length_append,(rawK_valid h.1).2.1,rawKs_len l (by unfold validAll;exact h.2),List.length_cons]
  omega
theorem chunks_raw:∀l:List (List UInt8),validAll l=true→chunkN l.length (rawKs l)=l
 | [],_=>rfl
 | k::l,h=>by
  unfold validAll at h
  simp only[List.all_cons,Bool.and_eq_true] at h
  obtain⟨-,h2,h3⟩:=rawK_valid h.1
  have ih:=chunks_raw l (by unfold validAll;exact h.2)
  show hexL ((rawKs (k::l)).take 32)::chunkN l.length ((rawKs (k::l)).drop 32)=k::l
  rw[rawKs_cons,List.take_append_of_le_length (by omega),List.take_of_length_le (by omega),h3,List.drop_append_of_le_length (by omega),List.drop_of_length_le (by omega),List.nil_append,ih]
def refTreeD (t:List UInt8):TreeD:=⟨shp6 t,chunkN ((t.length - 6) / 32) (t.drop 6)⟩
def refTree (b:List UInt8):Bool:=match b with
 | []=>false
 | k::t=>decide (k=2)&&decide (6≤t.length)&&decide ((t.length - 6) % 32=0)&&mayTree (refTreeD t)
theorem shp6_bytes {t:List UInt8} (h:6≤t.length):beB (shp6 t).w.toNat 2++beB (shp6 t).h.toNat 2++[UInt8.ofNat (shp6 t).c.toNat,UInt8.ofNat (shp6 t).d.toNat]=t.take 6:=by
 match t,h with
 | a::b::c::d::e::f::r,_=>
  have e1:(shp6 (a::b::c::d::e::f::r)).w.toNat=beVal [a,b]:=by simp[shp6]
  have e2:(shp6 (a::b::c::d::e::f::r)).h.toNat=beVal [c,d]:=by simp[shp6]
  have e3:(shp6 (a::b::c::d::e::f::r)).c.toNat=e.toNat:=by simp[shp6]
  have e4:(shp6 (a::b::c::d::e::f::r)).d.toNat=f.toNat:=by simp[shp6]
  rw[e1,e2,e3,e4,beB_val2,beB_val2,ofNat_toNat,ofNat_toNat]
  rfl
theorem tree_bytes {t:List UInt8} (h:6≤t.length) (hm:(t.length - 6) % 32=0):treeT (refTreeD t)=t:=by
 unfold treeT refTreeD
 simp only
 rw[shp6_bytes h,raw_chunks _ _ (by rw[List.length_drop];omega),List.take_append_drop]
theorem may_shape {t:TreeD} (h:mayTree t=true):maySh t.shp=true:=by
 unfold mayTree at h
 simp only[Bool.and_eq_true,decide_eq_true_eq] at h
 by_cases hm:maySh t.shp=true
 ·exact hm
 ·have:=h.1.1
  unfold gridD at this;rw[if_neg hm] at this;exact absurd this (by decide)
theorem shp6_of (s:ShpD) (z:List UInt8) (hn:numsB s=true):shp6 (beB s.w.toNat 2++beB s.h.toNat 2++[UInt8.ofNat s.c.toNat,UInt8.ofNat s.d.toNat]++z)=s:=by
 obtain⟨hw,hh,hc,hd⟩:=(numsB_iff s).1 hn
 have e:∀n:Nat,beB n 2=[UInt8.ofNat (n / 256),UInt8.ofNat n]:=fun n=>by simp[beB,leBy,List.range_succ]
 have b1:=be2 s.w.toNat (by omega)
 have b2:=be2 s.h.toNat (by omega)
 have c1:=Wd.u8n s.c.toNat (by omega)
 have c2:=Wd.u8n s.d.toNat (by rcases hd with h | h <;> omega)
 rw[e] at b1 b2
 rw[e,e]
 unfold shp6
 simp only[List.cons_append,List.nil_append,List.take_succ_cons,List.take_zero,List.drop_succ_cons,List.drop_zero,List.getD_cons_succ,List.getD_cons_zero]
 rw[b1,b2,c1,c2]
 obtain⟨w,h,c,d⟩:=s
 simp only at hw hh hc hd ⊢
 congr 1 <;> (try (rcases hd with h | h)) <;> omega
theorem tree_iff (b:List UInt8):(kindO b=2)↔refTree b=true:=by
 constructor
 ·intro h
  obtain⟨o,hs,hb,hne,hk⟩:=kindO_some h (by decide)
  cases o with
  | tile s px=>cases hk
  | comm c=>cases hk
  | tree T=>
   simp only[ObjD.bytes] at hb hne
   unfold treeB at hb hne
   split at hne
   ·rename_i hm
    rw[if_pos hm] at hb
    subst hb
    have hv:validAll T.keys=true:=by unfold mayTree at hm;simp only[Bool.and_eq_true] at hm;exact hm.2
    have hl:(treeT T).length=6+32 * T.keys.length:=by
     unfold treeT
     simp only[List.length_append,beB_length,rawKs_len _ hv,List.length_cons,List.length_nil]
    have hsh:=may_shape hm
    have hnum:numsB T.shp=true:=by unfold maySh at hsh;simp only[Bool.and_eq_true] at hsh;exact hsh.1
    have eD:refTreeD (treeT T)=T:=by
     unfold refTreeD
     rw[hl,show 6+32 * T.keys.length - 6=32 * T.keys.length by omega,Nat.mul_div_cancel_left _ (by decide:0<32)]
     have e1:shp6 (treeT T)=T.shp:=by unfold treeT;exact shp6_of T.shp _ hnum
     have e2:(treeT T).drop 6=rawKs T.keys:=by
      unfold treeT
      rw[List.drop_append_of_le_length (by simp[beB_length]),List.drop_of_length_le (by simp[beB_length]),List.nil_append]
     rw[e1,e2,chunks_raw _ hv]
    unfold refTree
    simp only[Bool.and_eq_true,decide_eq_true_eq]
    refine⟨⟨⟨trivial,by omega⟩,by omega⟩,?_⟩
    rw[eD];exact hm
   ·exact absurd rfl hne
 ·intro h
  unfold refTree at h
  match b,h with
  | k::t,h=>
   simp only[Bool.and_eq_true,decide_eq_true_eq] at h
   obtain⟨⟨⟨rfl,h6⟩,hm⟩,hM⟩:=h
   have hb:(ObjD.tree (refTreeD t)).bytes=2::t:=by
    show treeB (refTreeD t)=_
    unfold treeB
    rw[if_pos hM,tree_bytes h6 hm]
   have:=kindO_of (o:=.tree (refTreeD t)) trivial (by rw[hb];simp)
   rw[hb] at this
   exact this
def refTile (b:List UInt8):Bool:=match b with
 | []=>false
 | k::t=>decide (k=1)&&decide ((decPL t).2.2=0)&&mayTile (decPL t).1 (decPL t).2.1.length
theorem tile_iff (b:List UInt8):(kindO b=1)↔refTile b=true:=by
 constructor
 ·intro h
  obtain⟨o,hs,hb,hne,hk⟩:=kindO_some h (by decide)
  cases o with
  | tree T=>cases hk
  | comm c=>cases hk
  | tile s px=>
   simp only[ObjD.bytes] at hb hne
   unfold tileB at hb hne
   split at hne
   ·rename_i hm
    rw[if_pos hm] at hb
    subst hb
    show (decide ((1:UInt8)=1)&&decide ((decPL (encP s px)).2.2=0)&&mayTile (decPL (encP s px)).1 (decPL (encP s px)).2.1.length)=true
    rw[dec_enc s px ((mayTile_iff s _).1 hm).1]
    simp[hm]
   ·exact absurd rfl hne
 ·intro h
  unfold refTile at h
  match b,h with
  | k::t,h=>
   simp only[Bool.and_eq_true,decide_eq_true_eq] at h
   obtain⟨⟨rfl,h0⟩,hM⟩:=h
   have he:encP (decPL t).1 (decPL t).2.1=t:=by
    unfold decPL at h0 ⊢
    split at h0
    ·cases h0
    ·rename_i h7
     rw[if_neg h7]
     split at h0
     ·cases h0
     ·rename_i hmk
      rw[if_neg hmk]
      split at h0
      ·cases h0
      ·rename_i hs
       rw[if_neg hs]
       split at h0
       ·cases h0
       ·rename_i hl
        rw[if_neg hl]
        have hmk2:=Decidable.not_not.1 hmk
        match t,h7 with
        | m::a0::a1::b0::b1::c::d::r,_=>
         have e0:m=82:=by
          have:=hmk2.1
          simp only[List.getD_cons_zero] at this
          apply UInt8.toNat_inj.1
          rw[this];rfl
         subst e0
         have e1:(shpAt (82::a0::a1::b0::b1::c::d::r)).w.toNat=beVal [a0,a1]:=by simp[shpAt]
         have e2:(shpAt (82::a0::a1::b0::b1::c::d::r)).h.toNat=beVal [b0,b1]:=by simp[shpAt]
         have e3:(shpAt (82::a0::a1::b0::b1::c::d::r)).c.toNat=c.toNat:=by simp[shpAt]
         have e4:(shpAt (82::a0::a1::b0::b1::c::d::r)).d.toNat=d.toNat:=by simp[shpAt]
         show encP (shpAt _) _=_
         unfold encP
         rw[e1,e2,e3,e4,beB_val2,beB_val2,ofNat_toNat,ofNat_toNat]
         rfl
   have hb:(ObjD.tile (decPL t).1 (decPL t).2.1).bytes=1::t:=by
    show tileB _ _=_
    unfold tileB
    rw[if_pos hM,he]
   have:=kindO_of (o:=.tile (decPL t).1 (decPL t).2.1) trivial (by rw[hb];simp)
   rw[hb] at this
   exact this
theorem ofNat_eq {n:Nat} {x:UInt8} (h:n % 256=x.toNat):UInt8.ofNat n=x:=by
 apply UInt8.toNat_inj.1
 rw[UInt8.toNat_ofNat']
 exact h
theorem beB_val6 {l:List UInt8} (h:l.length=6):beB (beVal l) 6=l:=by
 match l,h with
 | [x0,x1,x2,x3,x4,x5],_=>
  have h0:=x0.toNat_lt
  have h1:=x1.toNat_lt
  have h2:=x2.toNat_lt
  have h3:=x3.toNat_lt
  have h4:=x4.toNat_lt
  have h5:=x5.toNat_lt
  obtain⟨n,hn⟩:∃n,beVal [x0,x1,x2,x3,x4,x5]=n:=⟨_,rfl⟩
  have e:n=1099511627776 * x0.toNat+4294967296 * x1.toNat+16777216 * x2.toNat+65536 * x3.toNat+256 * x4.toNat+x5.toNat:=by
   rw[←hn]
   simp only[beVal,List.foldl_cons,List.foldl_nil];omega
  rw[hn]
  have e0:UInt8.ofNat (n / 1099511627776)=x0:=ofNat_eq (by omega)
  have e1:UInt8.ofNat (n / 4294967296)=x1:=ofNat_eq (by omega)
  have e2:UInt8.ofNat (n / 16777216)=x2:=ofNat_eq (by omega)
  have e3:UInt8.ofNat (n / 65536)=x3:=ofNat_eq (by omega)
  have e4:UInt8.ofNat (n / 256)=x4:=ofNat_eq (by omega)
  have e5:UInt8.ofNat n=x5:=ofNat_eq (by omega)
  simp[beB,leBy,List.range_succ,e0,e1,e2,e3,e4,e5]
theorem beB_valTwo {l:List UInt8} (h:l.length=2):beB (beVal l) 2=l:=by
 match l,h with
 | [x0,x1],_=>exact beB_val2 x0 x1
theorem td (t:List UInt8) (n k:Nat):(t.drop n).take k++t.drop (n+k)=t.drop n:=by
 have:t.drop (n+k)=(t.drop n).drop k:=by rw[List.drop_drop]
 rw[this,List.take_append_drop]
theorem chunk_take:∀(n:Nat) (t:List UInt8),chunkN n (t.take (32 * n))=chunkN n t
 | 0,_=>rfl
 | n+1,t=>by
  show hexL ((t.take (32 * (n+1))).take 32)::chunkN n ((t.take (32 * (n+1))).drop 32)=hexL (t.take 32)::chunkN n (t.drop 32)
  rw[List.take_take,Nat.min_eq_left (by omega),List.drop_take,show 32 * (n+1) - 32=32 * n by omega,chunk_take n]
theorem chunk_len:∀(n:Nat) (t:List UInt8),(chunkN n t).length=n
 | 0,_=>rfl
 | n+1,t=>by show (chunkN n (t.drop 32)).length+1=n+1;rw[chunk_len n]
def npC (t:List UInt8):Nat:=(t.getD 32 0).toNat
def atC (t:List UInt8):Nat:=33+32 * npC t
def alC (t:List UInt8):Nat:=beVal ((t.drop (atC t+6)).take 2)
def tlC (t:List UInt8):Nat:=beVal ((t.drop (atC t+8+alC t)).take 2)
def refCommD (t:List UInt8):CommD:=⟨hexL (t.take 32),chunkN (npC t) (t.drop 33),((beVal ((t.drop (atC t)).take 6):Nat):Int),(t.drop (atC t+8)).take (alC t),t.drop (atC t+8+alC t+2)⟩
structure CommOk (t:List UInt8):Prop where
 np:npC t≤2
 len:atC t+8≤t.length
 al:alC t+2≤t.length - (atC t+8)
 tl:t.length - (atC t+8) - alC t - 2=tlC t
theorem comm_bytes {t:List UInt8} (h:CommOk t):commT (refCommD t)=t:=by
 obtain⟨h1,h2,h3,h4⟩:=h
 have hat:atC t=33+32 * npC t:=rfl
 obtain⟨at_,ea⟩:∃at_,atC t=at_:=⟨_,rfl⟩
 have e1:t.take 32++([UInt8.ofNat (npC t)]++((t.drop 33).take (32 * npC t)++t.drop at_))=t:=by
  have a1:t.drop 32=[UInt8.ofNat (npC t)]++t.drop 33:=by
   rw[List.drop_eq_getElem_cons (by omega)]
   congr 1
   unfold npC
   rw[List.getD_eq_getElem?_getD,List.getElem?_eq_getElem (by omega),Option.getD_some,ofNat_toNat]
  have a2:(t.drop 33).take (32 * npC t)++t.drop at_=t.drop 33:=by
   have:t.drop at_=(t.drop 33).drop (32 * npC t):=by rw[List.drop_drop];congr 1;omega
   rw[this,List.take_append_drop]
  rw[a2,←a1,List.take_append_drop]
 have e2:(t.drop at_).take 6++((t.drop (at_+6)).take 2++((t.drop (at_+8)).take (alC t)++((t.drop (at_+8+alC t)).take 2++t.drop (at_+8+alC t+2))))=t.drop at_:=by
  have a1:(t.drop (at_+8+alC t)).take 2++t.drop (at_+8+alC t+2)=t.drop (at_+8+alC t):=td _ _ _
  have a2:(t.drop (at_+8)).take (alC t)++t.drop (at_+8+alC t)=t.drop (at_+8):=td _ _ _
  have a3:(t.drop (at_+6)).take 2++t.drop (at_+8)=t.drop (at_+6):=td _ _ _
  have a4:(t.drop at_).take 6++t.drop (at_+6)=t.drop at_:=td _ _ _
  rw[a1,a2,a3,a4]
 have r1:rawKs (chunkN (npC t) (t.drop 33))=(t.drop 33).take (32 * npC t):=by
  rw[←chunk_take,raw_chunks _ _ (by rw[List.length_take,List.length_drop];omega)]
 have r2:beB (beVal ((t.drop at_).take 6)) 6=(t.drop at_).take 6:=beB_val6 (by rw[List.length_take,List.length_drop];omega)
 have r3:beB ((t.drop (at_+8)).take (alC t)).length 2=(t.drop (at_+6)).take 2:=by
  have:((t.drop (at_+8)).take (alC t)).length=alC t:=by rw[List.length_take,List.length_drop];omega
  rw[this]
  unfold alC
  rw[ea]
  exact beB_valTwo (by rw[List.length_take,List.length_drop];omega)
 have r4:beB (t.drop (at_+8+alC t+2)).length 2=(t.drop (at_+8+alC t)).take 2:=by
  have:(t.drop (at_+8+alC t+2)).length=tlC t:=by rw[List.length_drop];omega
  rw[this]
  unfold tlC
  rw[ea]
  exact beB_valTwo (by rw[List.length_take,List.length_drop];omega)
 unfold commT refCommD
 simp only[Int.toNat_natCast]
 rw[raw_hex,chunk_len,ea,r1,r2,r3,r4]
 simp only[List.append_assoc]
 rw[e2,e1]
def refComm (b:List UInt8):Prop:=∃t,b=3::t∧CommOk t∧mayComm (refCommD t)=true
theorem comm_parts {c:CommD} (hm:mayComm c=true) (hs:c.author.length<65536∧c.text.length<65536):CommOk (commT c)∧refCommD (commT c)=c:=by
 have hm':=hm
 unfold mayComm at hm'
 simp only[Bool.and_eq_true,decide_eq_true_eq,Bool.not_eq_true'] at hm'
 obtain⟨⟨⟨⟨⟨⟨⟨k1,k2⟩,k3⟩,-⟩,k5⟩,k6⟩,-⟩,-⟩:=hm'
 obtain⟨-,l1,l2⟩:=rawK_valid k1
 have l3:=rawKs_len _ k3
 obtain⟨A,hA⟩:∃A,rawK c.tree=A:=⟨_,rfl⟩
 obtain⟨K,hK⟩:∃K,rawKs c.pars=K:=⟨_,rfl⟩
 obtain⟨S,hS⟩:∃S,beB c.stamp.toNat 6=S:=⟨_,rfl⟩
 obtain⟨N,hN⟩:∃N,beB c.author.length 2=N:=⟨_,rfl⟩
 obtain⟨M,hM⟩:∃M,beB c.text.length 2=M:=⟨_,rfl⟩
 have lS:S.length=6:=by rw[←hS];exact beB_length _ _
 have lN:N.length=2:=by rw[←hN];exact beB_length _ _
 have lM:M.length=2:=by rw[←hM];exact beB_length _ _
 rw[hA] at l1 l2
 rw[hK] at l3
 have eT:commT c=A++(UInt8.ofNat c.pars.length::(K++(S++(N++(c.author++(M++c.text)))))):=by
  unfold commT;rw[hA,hK,hS,hN,hM];simp
 obtain⟨T,hT⟩:∃T,commT c=T:=⟨_,rfl⟩
 rw[hT] at eT ⊢
 have d32:T.drop 32=UInt8.ofNat c.pars.length::(K++(S++(N++(c.author++(M++c.text))))):=by rw[eT,←l1,List.drop_left]
 have d33:T.drop 33=K++(S++(N++(c.author++(M++c.text)))):=by rw[show 33=32+1 by rfl,←List.drop_drop,d32];rfl
 have np:npC T=c.pars.length:=by
  unfold npC
  have:T.getD 32 0=(T.drop 32).getD 0 0:=by simp[List.getD_eq_getElem?_getD,List.getElem?_drop]
  rw[this,d32]
  exact Wd.u8n _ (by omega)
 have at_:atC T=33+K.length:=by unfold atC;rw[np,l3]
 have dA:T.drop (atC T)=S++(N++(c.author++(M++c.text))):=by rw[at_,←List.drop_drop,d33,List.drop_left]
 have d6:T.drop (atC T+6)=N++(c.author++(M++c.text)):=by rw[←List.drop_drop,dA,←lS,List.drop_left]
 have d8:T.drop (atC T+8)=c.author++(M++c.text):=by rw[show atC T+8=atC T+6+2 by omega,←List.drop_drop,d6,←lN,List.drop_left]
 have al:alC T=c.author.length:=by
  unfold alC
  rw[d6,←lN,List.take_left,←hN,be2 _ hs.1]
 have d9:T.drop (atC T+8+alC T)=M++c.text:=by rw[←List.drop_drop,d8,al,List.drop_left]
 have tl:tlC T=c.text.length:=by
  unfold tlC
  rw[d9,←lM,List.take_left,←hM,be2 _ hs.2]
 have d11:T.drop (atC T+8+alC T+2)=c.text:=by rw[←List.drop_drop,d9,←lM,List.drop_left]
 have hlen:T.length=33+K.length+8+c.author.length+2+c.text.length:=by
  rw[eT];simp only[List.length_append,List.length_cons];omega
 refine⟨⟨by rw[np];exact k2,by omega,by omega,by omega⟩,?_⟩
 have e1:T.take 32=A:=by rw[eT,←l1,List.take_left]
 have e2:chunkN (npC T) (T.drop 33)=c.pars:=by
  rw[np,←chunk_take,d33,←l3,List.take_left,←hK]
  exact chunks_raw _ k3
 have e3:beVal ((T.drop (atC T)).take 6)=c.stamp.toNat:=by rw[dA,←lS,List.take_left,←hS,be6 _ (by omega)]
 have e4:(T.drop (atC T+8)).take (alC T)=c.author:=by rw[d8,al,List.take_left]
 unfold refCommD
 rw[e1,e2,e3,e4,d11,l2]
 obtain⟨a,b,s,x,y⟩:=c
 simp only at k5 ⊢
 congr 1
 omega
theorem comm_iff (b:List UInt8):(kindO b=3)↔refComm b:=by
 constructor
 ·intro h
  obtain⟨o,hs,hb,hne,hk⟩:=kindO_some h (by decide)
  cases o with
  | tile s px=>cases hk
  | tree T=>cases hk
  | comm c=>
   simp only[ObjD.bytes] at hb hne
   unfold commB at hb hne
   split at hne
   ·rename_i hm
    rw[if_pos hm] at hb
    obtain⟨h1,h2⟩:=comm_parts hm hs
    exact⟨commT c,hb.symm,h1,by rw[h2];exact hm⟩
   ·exact absurd rfl hne
 ·rintro⟨t,rfl,hok,hm⟩
  have hb:(ObjD.comm (refCommD t)).bytes=3::t:=by
   show commB _=_
   unfold commB
   rw[if_pos hm,comm_bytes hok]
  have hsh:(ObjD.comm (refCommD t)).short:=by
   have h1:∀l:List UInt8,l.length≤2→beVal l<65536:=fun l hl=>by
    have h2:=beVal_lt l
    have h3:256^l.length≤256^2:=Nat.pow_le_pow_right (by decide) hl
    omega
   constructor
   ·show ((t.drop (atC t+8)).take (alC t)).length<65536
    have:alC t<65536:=h1 _ (by rw[List.length_take];omega)
    rw[List.length_take];omega
   ·show (t.drop (atC t+8+alC t+2)).length<65536
    have:tlC t<65536:=h1 _ (by rw[List.length_take];omega)
    have:=hok.tl
    rw[List.length_drop];omega
  have:=kindO_of hsh (by rw[hb];simp)
  rw[hb] at this
  exact this
end Go.Aq
