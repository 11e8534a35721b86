/- What was written is read: a block's head. Plain. What was written is read: a block. Plain. What was written is read: a packet. Plain. Make's bands, as the head's law wants them. Plain. PacketCuts: the plain law. packet.Decode where the mark lacks. -/
import Derived.Test.YtjngfhgakokejaaGreatCp23
import Derived.Test.YtjngfhgakokejaaGreatCp27
import Derived.Test.YtjngfhgakokejaaGreatCp25
import Derived.Test.YtjngfhgakokejaaGreatCp26
set_option maxRecDepth 100000
set_option maxHeartbeats 8000000
set_option linter.all false
namespace Go.Proofs.YtjngfhgakokejaaGreat
section
structure PGood (planes:Int) (s:StM):Prop where
 g:SGood planes s
 pl:0≤s.pl∧s.pl≤12
 len:s.ps.length=3 * s.pl.toNat - 2
 last:0<s.ps.length→(s.ps.map (·.1)).getD (s.ps.length - 1) 0=(s.bs.length:Int)
 none:s.ps.length=0→s.bs=[]
 bs:s.bs.length≤110000
 fin:Fin2 s.bs
structure BSy (mp md:BandM) (k:Nat):Prop where
 planes:md.planes=mp.planes
 pl:12≤mp.planes∧mp.planes≤15
 n:md.ss.length=mp.ss.length
 sp:∀ j,k≤j→∀ s,mp.ss[j]?=some s→s.said=0∧s.lb=3∧PGood mp.planes s∧leafN mp.first j=(if s.ps.length=0 then 1 else 0)∧leafN mp.zeros j=mp.planes - s.pl
 sd:∀ j,k≤j→j<mp.ss.length→md.ss[j]?=some stNew.m
 fs:SyT mp.first md.first∧EncGood mp.first mp.ss.length
 fl:∀ j,k≤j→leafS mp.first j=false
 zs:SyT mp.zeros md.zeros∧EncGood mp.zeros mp.ss.length
 zl:∀ j,k≤j→leafS mp.zeros j=false
theorem sizes_sum (style to_:Nat) (ends:List Int):∀ (f k b:Nat) (was:Int),f+1=to_ - k→(sizesM ends was (pcs style to_ (f+1) k b)).sum=ends.getD (to_ - 1) 0 - was
 | 0,k,b,was,h=>by
  rw[pcs,if_pos (by simp;omega)]
  simp only[pcs,sizesM,Nat.add_sub_cancel,List.sum_cons,List.sum_nil]
  have:k=to_ - 1:=by omega
  rw[this]
  omega
 | f+1,k,b,was,h=>by
  rw[pcs]
  split
  ·simp only[sizesM,Nat.add_sub_cancel,List.sum_cons]
   rw[sizes_sum style to_ ends f (k+1) (k+1) _ (by omega)]
   omega
  ·exact sizes_sum style to_ ends f (k+1) b was (by omega)
theorem lens_sum (style to_:Nat):∀ (f k b:Nat),f+1=to_ - k→b≤k→(lensM (pcs style to_ (f+1) k b)).sum=(to_:Int) - (b:Int)
 | 0,k,b,h,hb=>by
  rw[pcs,if_pos (by simp;omega)]
  simp only[pcs,lensM,List.map_cons,List.map_nil,List.sum_cons,List.sum_nil]
  have:k+1=to_:=by omega
  rw[this]
  omega
 | f+1,k,b,h,hb=>by
  rw[pcs]
  split
  ·simp only[lensM,List.map_cons,List.sum_cons]
   have:=lens_sum style to_ f (k+1) (k+1) (by omega) (Nat.le_refl _)
   unfold lensM at this
   rw[this]
   push_cast
   omega
  ·exact lens_sum style to_ f (k+1) b (by omega) (by omega)
theorem sum_toNat:∀ (L:List Int),(∀ e∈L,0≤e)→(((L.map Int.toNat).sum:Nat):Int)=L.sum
 | [],_=>rfl
 | e::L,h=>by
  have h1:=h e List.mem_cons_self
  have h2:=sum_toNat L fun x hx=>h x (List.mem_cons_of_mem _ hx)
  simp only[List.map_cons,List.sum_cons]
  push_cast
  rw[h2]
  omega
def sumP (l:List PcM):Nat:=(l.map (·.p)).sum
def sumN (l:List PcM):Nat:=(l.map (·.n)).sum
theorem sumP_append (a b:List PcM):sumP (a++b)=sumP a+sumP b:=by simp[sumP]
theorem sumN_append (a b:List PcM):sumN (a++b)=sumN a+sumN b:=by simp[sumN]
theorem zip_sums (x:SpotX):∀ (L1 L2:List Int),L1.length=L2.length→sumP ((L1.zip L2).map fun q=>(⟨x,q.1.toNat,q.2.toNat⟩:PcM))=(L1.map Int.toNat).sum∧sumN ((L1.zip L2).map fun q=>(⟨x,q.1.toNat,q.2.toNat⟩:PcM))=(L2.map Int.toNat).sum
 | [],[],_=>⟨rfl,rfl⟩
 | p::L1,m::L2,h=>by
  obtain⟨h1,h2⟩:=zip_sums x L1 L2 (by simpa using h)
  simp only[sumP,sumN] at h1 h2 ⊢
  simp only[List.zip_cons_cons,List.map_cons,List.sum_cons,h1,h2,and_self]
 | [],_::_,h=>by simp at h
 | _::_,[],h=>by simp at h
theorem zerosE_pre (U:List LevM) (k m:Nat):∀ j,m≤j→(zerosE U k m).2 <+: (zerosE U k j).2
  | 0,h=>by
    have h0:m=0:=by omega
    subst h0;exact List.prefix_refl _
  | j+1,h=>by
    rcases Nat.lt_or_eq_of_le h with h | h
    · exact(zerosE_pre U k m j (by omega)).trans (List.prefix_append _ _)
    · subst h;exact List.prefix_refl _
theorem Seg.pre {T:List Bool} {i:Nat} {a b:List Bool} (h:Seg T i b) (hp:a <+: b):Seg T i a:=hp.trans h
theorem zerosE_ns (U:List LevM) (k:Nat):∀ m,(zerosE U k m).1.map nsL=U.map nsL
 | 0=>rfl
 | m+1=>(encAt_ns _).trans (zerosE_ns U k m)
theorem zerosE_other (U:List LevM) (k j:Nat) (h:j≠k):∀ m,leafS (zerosE U k m).1 j=leafS U j
 | 0=>rfl
 | m+1=>(leafS_other _ k j _ h).trans (zerosE_other U k j h m)
section
variable {l:List UInt8} {T:List Bool} (hR:RdsOn l T)
include hR
theorem begin_read (U:List LevM) (k n z i:Nat) (planes:Int) (hg:EncGood U n) (hk:k<n) (hz:leafN U k=(z:Int)) (h:Seg T i (zerosE U k (z+1)).2) :
  ∀ (f m:Nat) (V:List LevM),m≤z→z<f+m→SyT (zerosE U k m).1 V→leafS (zerosE U k m).1 k=false→∃ V',beginGo l planes k f ((m:Int)+1) V (At T (i+(zerosE U k m).2.length))=(V',some (planes - z),At T (i+(zerosE U k (z+1)).2.length))∧SyT (zerosE U k (z+1)).1 V'
 | 0,m,V,hm,hf,_,_=>by omega
 | f+1,m,V,hm,hf,hs,hl=>by
  have hseg:Seg T (i+(zerosE U k m).2.length) (encAt (zerosE U k m).1 k ((m+1:Nat):Int)).2:=by
   have h1:=h.pre (zerosE_pre U k (m+1) (z+1) (by omega))
   exact Seg.right (a:=(zerosE U k m).2) h1
  have hN:leafN (zerosE U k m).1 k=(z:Int):=(leafN_ns (zerosE_ns U k m) k).trans hz
  have hcast:((m+1:Nat):Int)=(m:Int)+1:=by push_cast;rfl
  obtain⟨V1,e1,e2,e3,e4⟩:=at_read hR (zerosE U k m).1 V n k _ ((m+1:Nat):Int) hs (zerosE_good2 hk hg m) hk hseg (fun h=>by rw[hl] at h;cases h)
  rw[hN] at e1 e3 e4
  rw[hcast] at e1
  rw[beginGo_succ]
  have hlen:(zerosE U k (m+1)).2.length=(zerosE U k m).2.length+(encAt (zerosE U k m).1 k ((m+1:Nat):Int)).2.length:=by rw[← List.length_append];rfl
  by_cases hmz:m=z
  ·subst hmz
   have d:decide ((m:Int)<(m:Int)+1)=true:=decide_eq_true (by omega)
   rw[d] at e1
   simp only[e1]
   refine⟨V1,?_,e2⟩
   rw[if_pos trivial,e3 (by omega),hlen,hcast,Nat.add_assoc]
  ·have d:decide ((z:Int)<(m:Int)+1)=false:=decide_eq_false (by omega)
   rw[d] at e1
   simp only[e1]
   rw[if_neg (by simp)]
   have hls:leafS (zerosE U k (m+1)).1 k=false:=by
    cases hx:leafS (zerosE U k (m+1)).1 k with
    | false=>rfl
    | true=>exact absurd (e4.1 hx) (by omega)
   obtain⟨V',q1,q2⟩:=begin_read U k n z i planes hg hk hz h f (m+1) V1 (by omega) (by omega) e2 hls
   refine⟨V',?_,q2⟩
   rw[hlen,← Nat.add_assoc] at q1
   rw[hcast] at q1
   exact q1
end
end
section
theorem bsy_next {mp md mp' md':BandM} {k:Nat} (h:BSy mp md k) (hk:k<mp.ss.length) (p1:mp'.planes=mp.planes) (p2:md'.planes=md.planes) (l1:mp'.ss.length=mp.ss.length) (l2:md'.ss.length=md.ss.length) (s1:∀ j,k<j→mp'.ss[j]?=mp.ss[j]?) (s2:∀ j,k<j→md'.ss[j]?=md.ss[j]?)
  (f1:SyT mp'.first md'.first) (f2:mp'.first=(encAt mp.first k 1).1) (z1:SyT mp'.zeros md'.zeros) (z2:∃ m,mp'.zeros=(zerosE mp.zeros k m).1):BSy mp' md' (k+1):=by
 obtain⟨m,z2⟩:=z2
 refine⟨by rw[p1,p2];exact h.planes,by rw[p1];exact h.pl,by rw[l1,l2];exact h.n,fun j hj s hs=>?_,fun j hj hjn=>?_,⟨f1,?_⟩,fun j hj=>?_,⟨z1,?_⟩,fun j hj=>?_⟩
 ·rw[s1 j (by omega)] at hs
  obtain⟨a1,a2,a3,a4,a5⟩:=h.sp j (by omega) s hs
  rw[p1]
  refine⟨a1,a2,a3,?_,?_⟩
  ·rw[f2,leafN_ns (encAt_ns 1) j];exact a4
  ·rw[z2,leafN_ns (zerosE_ns _ _ _) j];exact a5
 ·rw[s2 j (by omega)]
  exact h.sd j (by omega) (by rw[l1] at hjn;exact hjn)
 ·rw[f2,l1];exact encAt_good 1 hk h.fs.2
 ·rw[f2,leafS_other _ k j 1 (by omega)];exact h.fl j (by omega)
 ·rw[z2,l1];exact zerosE_good2 hk h.zs.2 m
 ·rw[z2,zerosE_other _ k j (by omega)];exact h.zl j (by omega)
theorem setSaid_p (m:BandM) (k to_:Nat):(setSaidM m k to_).planes=m.planes∧(setSaidM m k to_).first=m.first∧(setSaidM m k to_).zeros=m.zeros∧(setSaidM m k to_).ss.length=m.ss.length∧∀ j,k<j→(setSaidM m k to_).ss[j]?=m.ss[j]?:=by
 unfold setSaidM
 split
 ·exact⟨rfl,rfl,rfl,rfl,fun _ _=>rfl⟩
 ·exact⟨rfl,rfl,rfl,by simp,fun j hj=>by simp only;rw[List.getElem?_set_ne (by omega)]⟩
theorem log2_len {n m:Nat} (h:n<2 ^ m) (hm:0<m):n.log2<m:=by
 rcases Nat.eq_zero_or_pos n with e | e
 ·subst e;simpa using hm
 ·exact(Nat.log2_lt (by omega)).2 h
theorem mem_le_sum {n:Nat}:∀ {L:List Nat},n∈L→n≤L.sum
 | [],h=>by cases h
 | m::L,h=>by
  rw[List.sum_cons]
  rcases List.mem_cons.1 h with rfl | h
  ·omega
  ·have:=mem_le_sum h;omega
theorem need_small (L1 L2:List Int) (h2:∀ k,L2.getD k 0≤110000):∀ n,needK L1 L2 3 n≤17
 | 0=>by show (3:Int)≤17;decide
 | n+1=>by
  have ih:=need_small L1 L2 h2 n
  have h:=h2 n
  rw[needK_succ]
  split
  ·have:(L2.getD n 0).toNat.log2<17:=log2_len (by omega) (by decide)
   omega
  ·exact ih
section
variable {l:List UInt8} {T:List Bool} (hR:RdsOn l T)
include hR
theorem block_read (d:BandA) (k i style:Nat) (mp md:BandM) (s:StM) (hs:mp.ss[k]?=some s) (h:BSy mp md k) (hseg:Seg T i (headM mp k style 0 0 s.ps.length s).2) (M':Nat→BandM) (out:List PcM) (hM:M' d.bb=md) :
  ∃ md' pcs,stepD l style 0 ⟨M',out,At T i⟩ ⟨d,k⟩=some ⟨updM M' d.bb md',out++pcs,At T (i+(headM mp k style 0 0 s.ps.length s).2.length)⟩∧BSy (setSaidM (headM mp k style 0 0 s.ps.length s).1 k s.ps.length) md' (k+1)∧(∀ q∈pcs,q.x=⟨d,k⟩∧q.n≤110000)∧sumP pcs=s.ps.length∧sumN pcs=s.bs.length:=by
 have hk:=(List.getElem?_eq_some_iff.1 hs).1
 obtain⟨b1,b2,b3,b4,b5⟩:=h.sp k (Nat.le_refl _) s hs
 have hd:=h.sd k (Nat.le_refl _) hk
 have hF:headF mp k 0 0 s.ps.length=encAt mp.first k 1:=by unfold headF;rw[if_pos rfl];rfl
 have hsF:Seg T i (encAt mp.first k 1).2:=by
  unfold headM at hseg
  rw[hF] at hseg
  split at hseg
  ·exact hseg
  ·exact hseg.left
 obtain⟨V1,e1,e2,-,-⟩:=at_read hR mp.first md.first mp.ss.length k i 1 h.fs.1 h.fs.2 hk hsF (fun x=>by rw[h.fl k (Nat.le_refl _)] at x;cases x)
 have hsd0:stNew.m.ps.length=0:=rfl
 have hhere:hereM l md stNew.m k 0 (At T i)=({ md with first:=V1 },decide (leafN mp.first k<1),At T (i+(encAt mp.first k 1).2.length)):=by
  unfold hereM
  rw[if_pos hsd0]
  simp only[Int.natCast_zero,Int.zero_add,e1]
 by_cases h0:s.ps.length=0
 ·rw[if_pos h0] at b4
  have eH:headM mp k style 0 0 s.ps.length s=({ mp with first:=(encAt mp.first k 1).1 },(encAt mp.first k 1).2):=by unfold headM;rw[if_pos h0,hF]
  rw[eH]
  obtain⟨q1,q2,q3,q4,q5⟩:=setSaid_p { mp with first:=(encAt mp.first k 1).1 } k s.ps.length
  refine⟨{ md with first:=V1 },[],?_,bsy_next h hk q1 rfl q4 rfl q5 (fun _ _=>rfl) (by rw[q2];exact e2) q2 (by rw[q3];exact h.zs.1) ⟨0,q3⟩,(fun q hq=>by cases hq),h0.symm,by rw[b3.none h0];rfl⟩
  unfold stepD
  simp only[hM,hd,hhere,b4]
  rw[if_pos (by decide),List.append_nil]
 ·rw[if_neg h0] at b4
  obtain⟨np,hnp⟩:∃ np,s.ps.length=np:=⟨_,rfl⟩
  have hg:=b3.g
  have hz0:=hg.z
  obtain⟨z,hz⟩:∃ z:Nat,mp.planes - s.pl=z:=⟨(mp.planes - s.pl).toNat,by omega⟩
  have hlen:=b3.len
  have hplp:=b3.pl
  have hpp:=h.pl
  have eZ:=headZ_rel (m:=mp) (k:=k) (from_:=0) (s:=s) hz
  have eH:headM mp k style 0 0 np s=({ mp with first:=(encAt mp.first k 1).1,zeros:=(zerosE mp.zeros k (z+1)).1,ss:=mp.ss.set k (s.withS s.said (needM s style 0 np)) },(encAt mp.first k 1).2++((zerosE mp.zeros k (z+1)).2++(tellM (np - 0)++sizesB s style 0 np))):=by
   unfold headM
   rw[if_neg (by omega),← hnp,hF,eZ]
   unfold zerosTo zerosIf
   rw[if_pos rfl,if_pos rfl]
  rw[hnp] at hseg ⊢
  rw[eH] at hseg ⊢
  rw[Nat.sub_zero] at *
  have sZ:=hseg.right.left
  have sT:=hseg.right.right.left
  have sS:=hseg.right.right.right
  -- planes
  have hpt:mp.planes.toNat=12+(mp.planes.toNat - 12):=by omega
  obtain⟨V2,g1,g2⟩:=begin_read hR mp.zeros k mp.ss.length z (i+(encAt mp.first k 1).2.length) mp.planes h.zs.2 hk (by rw[b5,hz]) sZ mp.planes.toNat 0 md.zeros (Nat.zero_le _) (by omega) h.zs.1 (h.zl k (Nat.le_refl _))
  have hbeg:beginM l { md with first:=V1 } k (At T (i+(encAt mp.first k 1).2.length))=(V2,some s.pl,At T (i+(encAt mp.first k 1).2.length+(zerosE mp.zeros k (z+1)).2.length)):=by
   unfold beginM
   simp only[h.planes]
   have:=g1
   simp only[zerosE,List.length_nil,Nat.add_zero,Int.natCast_zero,Int.zero_add] at this
   rw[this,show mp.planes - (z:Int)=s.pl by omega]
   rfl
  have hnp1:1≤np∧np≤34:=by omega
  -- how many
  have ht:=told_tell hR hnp1.1 (by omega) sT
  -- sizes
  obtain⟨L1,hL1⟩:∃ L1,segL1 style 0 np=L1:=⟨_,rfl⟩
  obtain⟨L2,hL2⟩:∃ L2,segL2 s style 0 np=L2:=⟨_,rfl⟩
  have up2:=fun j hj=>segL2_up s style 0 np (by omega) (fun p hp=>by have h1:=hg.ends p hp;have h2:=hg.bs;omega) hg.up j hj
  have nP:L1.length=(piecesM style 0 np).length:=by rw[← hL1];exact List.length_map _
  have nQ:L2.length=(piecesM style 0 np).length:=by rw[← hL2];exact sizesM_length _ _ _
  have hne:0<(piecesM style 0 np).length:=List.length_pos_iff.2 (pieces_ne style 0 np (by omega))
  rw[hL2] at up2
  have hnonneg:∀ e∈L2,0≤e:=by
   intro e he
   obtain⟨j,hj,rfl⟩:=List.getElem_of_mem he
   have:=(up2 j (by omega)).1
   rw[List.getD_eq_getElem?_getD,List.getElem?_eq_getElem hj] at this
   exact this
  obtain⟨f,hf⟩:∃ f,np=f+1:=⟨np - 1,by omega⟩
  have hsumI:L2.sum=(s.bs.length:Int):=by
   rw[← hL2]
   unfold segL2 piecesM
   have hw:was0 (s.ps.map (·.1)) 0=0:=by unfold was0;rw[if_pos rfl]
   rw[hw,Nat.sub_zero]
   have:=sizes_sum style np (s.ps.map fun p:Int × Bool=>p.1) f 0 0 0 (by omega)
   rw[← hf] at this
   rw[this,Int.sub_zero]
   have h3:=b3.last (by omega)
   rw[hnp] at h3
   exact h3
  have hsumN:(L2.map Int.toNat).sum=s.bs.length:=by
   have h3:=sum_toNat L2 hnonneg
   rw[hsumI] at h3
   exact_mod_cast h3
  have hle:∀ j,L2.getD j 0≤110000:=by
   intro j
   by_cases hj:j<L2.length
   ·have hm:(L2.getD j 0).toNat∈L2.map Int.toNat:=List.mem_map.2 ⟨L2.getD j 0,by rw[List.getD_eq_getElem?_getD,List.getElem?_eq_getElem hj];exact List.getElem_mem hj,rfl⟩
    have h4:(L2.getD j 0).toNat≤(L2.map Int.toNat).sum:=mem_le_sum hm
    have h5:=b3.bs
    omega
   ·rw[List.getD_eq_getElem?_getD,List.getElem?_eq_none (by omega)]
    decide
  have hlb3:s.lb=3:=b2
  obtain⟨nd,hnd⟩:∃ nd,needM s style 0 np=nd:=⟨_,rfl⟩
  have hnd2:needK L1 L2 3 (piecesM style 0 np).length=nd:=by rw[← hnd];unfold needM;rw[hlb3,hL1,hL2]
  have hnd3:3≤nd∧nd≤17:=by
   refine⟨?_,by rw[← hnd2];exact need_small L1 L2 hle _⟩
   have:=needK_mono L1 L2 3 (piecesM style 0 np).length 0 (Nat.zero_le _)
   rw[hnd2] at this
   exact this
  have eS:sizesB s style 0 np=(List.replicate (nd - 3).toNat true++[false])++bitsK L1 L2 nd L1.length:=by
   unfold sizesB
   rw[hnd,hlb3,hL1,hL2,nP,List.append_assoc]
   rfl
  obtain⟨r3,hr3⟩:∃ r3,(nd - 3).toNat=r3:=⟨_,rfl⟩
  rw[hr3] at eS
  rw[eS] at sS
  obtain⟨i2,hi2⟩:∃ i2,i+(encAt mp.first k 1).2.length+(zerosE mp.zeros k (z+1)).2.length+(tellM np).length=i2:=⟨_,rfl⟩
  rw[hi2] at ht sS
  have hlb:=lb_read hR r3 22 3 i2 (by omega) (by omega) sS.left
  have sK:=sS.right
  rw[List.length_append,List.length_replicate,List.length_singleton] at sK
  obtain⟨lb,hlbn⟩:∃ lb:Nat,nd=(lb:Int):=⟨nd.toNat,by omega⟩
  have hlb4:3+r3=lb:=by omega
  rw[hlb4] at hlb
  rw[hlbn] at sK
  have hpc:=pcs_read hR ⟨d,k⟩ lb L1 L2 (i2+(r3+1)) (by omega) (fun j hj=>by
   have h6:=up2 j (by omega)
   have h7:=need_fits L1 L2 3 (by decide) (piecesM style 0 np).length j (by omega) h6.1
   rw[hnd2,hlbn,Int.toNat_natCast] at h7
   have h8:(L1.getD j 0).toNat.log2<10:=by
    have h9:=(lensM_bd style 0 np (by omega) j).2
    refine log2_len ?_ (by decide)
    rw[← hL1]
    show ((lensM (piecesM style 0 np)).getD j 0).toNat<1024
    omega
   exact⟨h6.1,h7,by omega,by omega⟩) sK
  -- what is read
  have hread:readM l style { md with first:=V1 } d k stNew.m (At T (i+(encAt mp.first k 1).2.length))=some ({ md with first:=V1,zeros:=V2,ss:=(md.ss.set k { stNew.m with pl:=s.pl }).set k { stNew.m with pl:=s.pl,lb:=(lb:Int) } },(L1.zip L2).map (fun q=>(⟨⟨d,k⟩,q.1.toNat,q.2.toNat⟩:PcM)),At T (i2+(r3+1)+(bitsK L1 L2 (lb:Int) L1.length).length)):=by
   have hA:readA l { md with first:=V1 } k stNew.m (At T (i+(encAt mp.first k 1).2.length))=({ md with first:=V1,zeros:=V2,ss:=md.ss.set k { stNew.m with pl:=s.pl } },{ stNew.m with pl:=s.pl },At T (i+(encAt mp.first k 1).2.length+(zerosE mp.zeros k (z+1)).2.length),true):=by
    unfold readA
    rw[if_pos hsd0,hbeg]
    simp only[begB,begS,begOk]
    rw[decide_eq_true (show (1:Int)≤s.pl by omega),decide_eq_true (show s.pl≤30 by omega)]
    rfl
   rw[readM_eq l style _ d k stNew.m _ hA,if_neg (by simp)]
   unfold readB
   rw[ht]
   simp only
   rw[if_neg (by
    show ¬ 3 * s.pl - 2<((0+np:Nat):Int)
    omega)]
   have e25:25 - (stNew.m.lb).toNat=22:=rfl
   have e3:(stNew.m.lb).toNat=3:=rfl
   show readC l style _ d k _ np (lbGo l (25 - (stNew.m.lb).toNat) (stNew.m.lb).toNat (At T i2))=_
   rw[e25,e3,hlb]
   unfold readC
   show some (_,(pcGo l ⟨d,k⟩ lb (lensM (piecesM style 0 (0+np))) _).1,(pcGo l ⟨d,k⟩ lb (lensM (piecesM style 0 (0+np))) _).2)=_
   rw[Nat.zero_add,show lensM (piecesM style 0 np)=L1 from hL1,hpc]
  obtain⟨q1,q2,q3,q4,q5⟩:=setSaid_p { mp with first:=(encAt mp.first k 1).1,zeros:=(zerosE mp.zeros k (z+1)).1,ss:=mp.ss.set k (s.withS s.said (needM s style 0 np)) } k np
  obtain⟨zs1,zs2⟩:=zip_sums ⟨d,k⟩ L1 L2 (by omega)
  refine⟨{ md with first:=V1,zeros:=V2,ss:=(md.ss.set k { stNew.m with pl:=s.pl }).set k { stNew.m with pl:=s.pl,lb:=(lb:Int) } },(L1.zip L2).map (fun q=>(⟨⟨d,k⟩,q.1.toNat,q.2.toNat⟩:PcM)),?_,bsy_next h hk q1 rfl (by rw[q4];simp) (by simp) (fun j hj=>by rw[q5 j hj];simp only;rw[List.getElem?_set_ne (by omega)]) (fun j hj=>by simp only;rw[List.getElem?_set_ne (by omega),List.getElem?_set_ne (by omega)]) (by rw[q2];exact e2) q2 (by rw[q3];exact g2) ⟨z+1,q3⟩,?_,?_,?_⟩
  ·unfold stepD
   simp only[hM,hd,hhere,b4]
   rw[if_neg (by decide),hread]
   simp only[Option.map_some]
   congr 2
   congr 1
   simp only[eS,List.length_append,List.length_replicate,List.length_singleton,hlbn] at *
   omega
  ·intro q hq
   obtain⟨⟨a,c⟩,hac,rfl⟩:=List.mem_map.1 hq
   refine⟨rfl,?_⟩
   have hc:c∈L2:=(List.of_mem_zip hac).2
   obtain⟨j,hj,rfl⟩:=List.getElem_of_mem hc
   have:=hle j
   rw[List.getD_eq_getElem?_getD,List.getElem?_eq_getElem hj] at this
   show (L2[j]).toNat≤110000
   simp only[Option.getD_some] at this
   omega
  ·rw[zs1]
   have h9:∀ e∈L1,0≤e:=by
    intro e he
    rw[← hL1] at he
    obtain⟨p,hp,rfl⟩:=List.mem_map.1 he
    have:=pieces_in style 0 np p hp
    omega
   have h3:=sum_toNat L1 h9
   have h10:L1.sum=(np:Int):=by
    rw[← hL1]
    unfold segL1 piecesM
    rw[Nat.sub_zero]
    have:=lens_sum style np f 0 0 (by omega) (Nat.le_refl _)
    rw[← hf] at this
    rw[this]
    simp
   rw[h10] at h3
   exact_mod_cast h3
  ·rw[zs2,hsumN]
end
end
section
theorem passN_one {n:Nat} (h:n≤100):passN (n:Int) 1 1=(n:Int):=by
 unfold passN
 rw[if_neg (by decide),if_neg (by decide),if_neg (by decide)]
 have e1:min (max (n:Int) 0) 100=(n:Int):=by omega
 rw[e1,show min (1:Int) 100=1 by decide,Int.mul_one,Int.ediv_one]
theorem toM_one {s:StM} (h:s.ps.length≤100) (h0:s.said=0):toM 1 0 s=s.ps.length:=by
 unfold toM
 have:=passN_one h
 simp only[Int.natCast_one,Int.natCast_zero,Int.zero_add,this,h0]
 omega
theorem foldE_pre (style:Nat):∀ (L:List SpotX) (S:PackS),S.bits <+: (L.foldl (stepE 1 style 0) S).bits
 | [],S=>List.prefix_refl _
 | x::L,S=>by
  rw[List.foldl_cons]
  refine List.IsPrefix.trans ?_ (foldE_pre style L _)
  unfold stepE
  split
  ·exact List.prefix_refl _
  ·exact List.prefix_append _ _
theorem foldD_some (l:List UInt8) (style:Nat) (o:Option DecS) (A B:List SpotX):foldD l style 0 o (A++B)=foldD l style 0 (foldD l style 0 o A) B:=by
 unfold foldD
 rw[List.foldl_append]
section
variable {l:List UInt8} {T:List Bool} (hR:RdsOn l T)
include hR
theorem row_read (style:Nat) (d:BandA) (S:PackS) (Sd:DecS) (hB:BSy (S.M d.bb) (Sd.M d.bb) 0) (hrd:Sd.rd=At T S.bits.length) (n:Nat) (hn:(S.M d.bb).ss.length=n) (hpre:(((List.range n).map (fun j=>(⟨d,j⟩:SpotX))).foldl (stepE 1 style 0) S).bits <+: T) :
  ∀ k,k≤n→∃ Sk Sdk,((List.range k).map (fun j=>(⟨d,j⟩:SpotX))).foldl (stepE 1 style 0) S=Sk∧foldD l style 0 (some Sd) ((List.range k).map (fun j=>(⟨d,j⟩:SpotX)))=some Sdk∧BSy (Sk.M d.bb) (Sdk.M d.bb) k∧Sdk.rd=At T Sk.bits.length∧(∀ b,b≠d.bb→Sk.M b=S.M b∧Sdk.M b=Sd.M b) ∧
   ∃ pcs,Sdk.out=Sd.out++pcs∧(∀ q∈pcs,q.x.d=d∧q.x.k<n∧q.n≤110000)∧sumN pcs+S.body.length=Sk.body.length∧sumP pcs≤34 * k∧sumN pcs≤110000 * k∧(Fin2 S.body→Fin2 Sk.body)∧Sk.bits.length≤S.bits.length+130000 * k
 | 0,_=>⟨S,Sd,rfl,rfl,hB,hrd,fun _ _=>⟨rfl,rfl⟩,[],by simp,(fun q hq=>by cases hq),by simp[sumN],by simp[sumP],by simp[sumN],id,by simp⟩
 | k+1,hk=>by
  obtain⟨Sk,Sdk,e1,e2,e3,e4,e5,pcs,o1,o2,o3,o4,o5,o6,o7⟩:=row_read style d S Sd hB hrd n hn hpre k (by omega)
  have eL:(List.range (k+1)).map (fun j=>(⟨d,j⟩:SpotX))=(List.range k).map (fun j=>(⟨d,j⟩:SpotX))++[⟨d,k⟩]:=by rw[List.range_succ,List.map_append];rfl
  have hlen:(Sk.M d.bb).ss.length=n:=by rw[← e1,foldE_len,hn]
  obtain⟨s,hs⟩:∃ s,(Sk.M d.bb).ss[k]?=some s:=⟨_,List.getElem?_eq_getElem (by rw[hlen];omega)⟩
  obtain⟨b1,b2,b3,-,-⟩:=e3.sp k (Nat.le_refl _) s hs
  have hto:=toM_one b3.g.np b1
  have hst:stepE 1 style 0 Sk ⟨d,k⟩=⟨updM Sk.M d.bb (setSaidM (headM (Sk.M d.bb) k style 0 0 s.ps.length s).1 k s.ps.length),Sk.bits++(headM (Sk.M d.bb) k style 0 0 s.ps.length s).2,if 0<s.ps.length then Sk.body++bodyM s.ps s.bs 0 s.ps.length else Sk.body⟩:=by
   unfold stepE
   simp only[hs,hto,b1]
   rfl
  have hpk:(stepE 1 style 0 Sk ⟨d,k⟩).bits <+: T:=by
   refine List.IsPrefix.trans ?_ hpre
   have eN:(List.range n).map (fun j=>(⟨d,j⟩:SpotX))=(List.range (k+1)).map (fun j=>(⟨d,j⟩:SpotX))++((List.range' (k+1) (n - (k+1))).map (fun j=>(⟨d,j⟩:SpotX))):=by
    rw[← List.map_append]
    congr 1
    have h9:=List.range'_append_1 (s:=0) (m:=k+1) (n:=n - (k+1))
    rw[Nat.zero_add,show k+1+(n - (k+1))=n by omega] at h9
    rw[List.range_eq_range',List.range_eq_range',h9]
   rw[eN,eL,List.foldl_append,List.foldl_append,e1]
   exact foldE_pre style _ _
  have hseg:Seg T Sk.bits.length (headM (Sk.M d.bb) k style 0 0 s.ps.length s).2:=by
   rw[hst] at hpk
   have h0:Seg T 0 (Sk.bits++(headM (Sk.M d.bb) k style 0 0 s.ps.length s).2):=by unfold Seg;rw[List.drop_zero];exact hpk
   have:=h0.right
   rw[Nat.zero_add] at this
   exact this
  obtain⟨md',pc,q1,q2,q3,q4,q5⟩:=block_read hR d k Sk.bits.length style (Sk.M d.bb) (Sdk.M d.bb) s hs e3 hseg Sdk.M Sdk.out rfl
  have eD:(⟨Sdk.M,Sdk.out,At T Sk.bits.length⟩:DecS)=Sdk:=by rw[← e4]
  rw[eD] at q1
  refine⟨stepE 1 style 0 Sk ⟨d,k⟩,⟨updM Sdk.M d.bb md',Sdk.out++pc,At T (Sk.bits.length+(headM (Sk.M d.bb) k style 0 0 s.ps.length s).2.length)⟩,?_,?_,?_,?_,?_,pcs++pc,?_,?_,?_,?_,?_,?_,?_⟩
  ·rw[eL,List.foldl_append,e1];rfl
  ·rw[eL,foldD_some,e2]
   unfold foldD
   simp only[List.foldl_cons,List.foldl_nil,Option.bind_some]
   exact q1
  ·rw[hst]
   simp only[updM_same]
   exact q2
  ·rw[hst,List.length_append]
  ·intro b hb
   rw[hst]
   simp only[updM_other _ _ hb]
   exact e5 b hb
  ·rw[o1,List.append_assoc]
  ·intro q hq
   rcases List.mem_append.1 hq with hq | hq
   ·exact o2 q hq
   ·have:=q3 q hq
    rw[this.1]
    exact⟨rfl,by show k<n;omega,this.2⟩
  ·rw[hst,sumN_append,q5]
   simp only
   split
   ·rename_i hp
    obtain⟨lo,hi_,h1,h2,h3,h4,h5⟩:=bodyM_rel b3.g hp (Nat.le_refl _)
    have h6:=b3.last hp
    rw[if_pos rfl] at h1
    rw[h6] at h2
    rw[h5,List.length_append,List.length_take,List.length_drop]
    omega
   ·rename_i hp
    rw[b3.none (by omega),List.length_nil]
    omega
  ·have h7:=b3.len
   have h8:=b3.pl
   rw[sumP_append,q4]
   omega
  ·have h7:=b3.bs
   rw[sumN_append,q5]
   omega
  ·intro hf
   have hf2:=o6 hf
   rw[hst]
   simp only
   split
   ·rename_i hp
    obtain⟨lo,hi_,h1,h2,h3,h4,h5⟩:=bodyM_rel b3.g hp (Nat.le_refl _)
    have h6:=b3.last hp
    rw[if_pos rfl] at h1
    rw[h6] at h2
    rw[h5,show lo=0 by omega,show hi_ - 0=s.bs.length by omega,List.drop_zero,List.take_length]
    exact hf2.append b3.fin
   ·exact hf2
  ·have h9:=e3.pl
   have h10:=b3.pl
   have h11:=headM_length { Sk.M d.bb with ss:=[] } k style 0 0 s.ps.length s e3.fs.2.1.2.2.2.2 e3.zs.2.1.2.2.2.2 ⟨by show 0≤(Sk.M d.bb).planes∧(Sk.M d.bb).planes≤60;omega,fun x hx=>by cases hx⟩ ⟨by omega,by rw[b2];decide,b3.g.bs⟩ (by decide) (fun p hp=>by have h1:=b3.g.ends p hp;have h2:=b3.g.bs;omega) (by rw[b2];decide) (by have:=b3.g.np;omega)
   have h12:(headM { Sk.M d.bb with ss:=[] } k style 0 0 s.ps.length s).2=(headM (Sk.M d.bb) k style 0 0 s.ps.length s).2:=by unfold headM;split <;> rfl
   rw[h12] at h11
   rw[hst,List.length_append]
   omega
theorem all_read (style:Nat):∀ (Ds:List BandA) (S:PackS) (Sd:DecS),(Ds.map (·.bb)).Nodup→(∀ d∈Ds,(0<d.n→BSy (S.M d.bb) (Sd.M d.bb) 0)∧(S.M d.bb).ss.length=d.n)→Sd.rd=At T S.bits.length→((spotsOf Ds).foldl (stepE 1 style 0) S).bits <+: T →
  ∃ Sd',foldD l style 0 (some Sd) (spotsOf Ds)=some Sd'∧Sd'.rd=At T ((spotsOf Ds).foldl (stepE 1 style 0) S).bits.length∧(∀ b,b ∉ Ds.map (·.bb)→Sd'.M b=Sd.M b) ∧
   ∃ pcs,Sd'.out=Sd.out++pcs∧(∀ q∈pcs,q.x.d∈Ds∧q.x.k<q.x.d.n∧q.n≤110000)∧sumN pcs+S.body.length=((spotsOf Ds).foldl (stepE 1 style 0) S).body.length∧sumP pcs≤34 * (spotsOf Ds).length∧sumN pcs≤110000 * (spotsOf Ds).length∧(Fin2 S.body→Fin2 ((spotsOf Ds).foldl (stepE 1 style 0) S).body)∧((spotsOf Ds).foldl (stepE 1 style 0) S).bits.length≤S.bits.length+130000 * (spotsOf Ds).length
 | [],S,Sd,_,_,h,_=>⟨Sd,rfl,h,fun _ _=>rfl,[],by simp,(fun q hq=>by cases hq),by simp[sumN,spotsOf],by simp[sumP],by simp[sumN],id,by simp[spotsOf]⟩
 | d::Ds,S,Sd,hnd,hB,hrd,hpre=>by
  rw[List.map_cons,List.nodup_cons] at hnd
  have eL:spotsOf (d::Ds)=(List.range d.n).map (fun j=>(⟨d,j⟩:SpotX))++spotsOf Ds:=rfl
  rw[eL,List.foldl_append] at hpre
  have hrow:∃ Sk Sdk,((List.range d.n).map (fun j=>(⟨d,j⟩:SpotX))).foldl (stepE 1 style 0) S=Sk∧foldD l style 0 (some Sd) ((List.range d.n).map (fun j=>(⟨d,j⟩:SpotX)))=some Sdk∧Sdk.rd=At T Sk.bits.length∧(∀ b,b≠d.bb→Sk.M b=S.M b∧Sdk.M b=Sd.M b) ∧
    ∃ pcs,Sdk.out=Sd.out++pcs∧(∀ q∈pcs,q.x.d=d∧q.x.k<d.n∧q.n≤110000)∧sumN pcs+S.body.length=Sk.body.length∧sumP pcs≤34 * d.n∧sumN pcs≤110000 * d.n∧(Fin2 S.body→Fin2 Sk.body)∧Sk.bits.length≤S.bits.length+130000 * d.n:=by
   by_cases h0:0<d.n
   ·obtain⟨hb,hn⟩:=hB d List.mem_cons_self
    obtain⟨Sk,Sdk,a1,a2,-,a4,a5,a6⟩:=row_read hR style d S Sd (hb h0) hrd d.n hn ((foldE_pre style _ _).trans hpre) d.n (Nat.le_refl _)
    exact⟨Sk,Sdk,a1,a2,a4,a5,a6⟩
   ·have e:d.n=0:=by omega
    rw[e]
    exact⟨S,Sd,rfl,rfl,hrd,fun _ _=>⟨rfl,rfl⟩,[],by simp,(fun q hq=>by cases hq),by simp[sumN],by simp[sumP],by simp[sumN],id,by simp⟩
  obtain⟨Sk,Sdk,a1,a2,a4,a5,pcs,o1,o2,o3,o4,o5,o6,o7⟩:=hrow
  rw[a1] at hpre
  have hne:∀ x∈Ds,x.bb≠d.bb:=fun x hx e=>hnd.1 (e ▸ List.mem_map.2 ⟨x,hx,rfl⟩)
  obtain⟨Sd',c1,c2,c3,pcs2,p1,p2,p3,p4,p5,p6,p7⟩:=all_read style Ds Sk Sdk hnd.2 (fun x hx=>by
   obtain⟨h1,h2⟩:=hB x (List.mem_cons_of_mem _ hx)
   obtain⟨h3,h4⟩:=a5 x.bb (hne x hx)
   rw[h3,h4]
   exact⟨h1,h2⟩) a4 hpre
  refine⟨Sd',?_,?_,?_,pcs++pcs2,?_,?_,?_,?_,?_,?_,?_⟩
  ·rw[eL,foldD_some,a2];exact c1
  ·rw[eL,List.foldl_append,a1];exact c2
  ·intro b hb
   rw[List.map_cons,List.mem_cons,not_or] at hb
   rw[c3 b hb.2]
   exact(a5 b hb.1).2
  ·rw[p1,o1,List.append_assoc]
  ·intro q hq
   rcases List.mem_append.1 hq with hq | hq
   ·have:=o2 q hq
    rw[this.1]
    exact⟨List.mem_cons_self,this.2⟩
   ·have:=p2 q hq
    exact⟨List.mem_cons_of_mem _ this.1,this.2⟩
  ·rw[eL,List.foldl_append,a1,sumN_append]
   omega
  ·rw[eL,List.length_append,List.length_map,List.length_range,sumP_append]
   omega
  ·rw[eL,List.length_append,List.length_map,List.length_range,sumN_append]
   omega
  ·intro hf
   rw[eL,List.foldl_append,a1]
   exact p6 (o6 hf)
  ·rw[eL,List.foldl_append,a1,List.length_append,List.length_map,List.length_range]
   omega
end
theorem head_read (style:Nat) (D:List BandA) (M U:Nat→BandM) (y:List UInt8) (hmo:moreM 1 0 M (spotsOf D)=true) (hnd:(D.map (·.bb)).Nodup) (hB:∀ d∈D,(0<d.n→BSy (plantE 1 (M d.bb)) (U d.bb) 0)∧(M d.bb).ss.length=d.n) :
  ∃ Sd,headD (wout (wbits (encS 1 style 0 D M).bits)++y) style 0 D U=some Sd∧endM (wout (wbits (encS 1 style 0 D M).bits)++y) Sd.rd=((wout (wbits (encS 1 style 0 D M).bits)).length,0)∧(∀ b,b ∉ D.map (·.bb)→Sd.M b=U b) ∧
   (∀ q∈Sd.out,q.x.d∈D∧q.x.k<q.x.d.n∧q.n≤110000)∧sumN Sd.out=(encS 1 style 0 D M).body.length∧sumP Sd.out≤34 * (spotsOf D).length∧sumN Sd.out≤110000 * (spotsOf D).length∧Fin2 (encS 1 style 0 D M).body∧(encS 1 style 0 D M).bits.length≤1+130000 * (spotsOf D).length∧0<(encS 1 style 0 D M).bits.length:=by
 obtain⟨M1,hM1⟩:∃ M1,(spotsOf D).foldl (encM 1) M=M1:=⟨_,rfl⟩
 have hS:encS 1 style 0 D M=(spotsOf D).foldl (stepE 1 style 0) ⟨M1,[true],[]⟩:=by unfold encS;rw[if_pos hmo,hM1]
 have hpl:∀ d∈D,M1 d.bb=plantE 1 (M d.bb):=by rw[← hM1];exact(encM_fold 1 D M hnd fun d hd=>(hB d hd).2).1
 have hln:∀ d∈D,(M1 d.bb).ss.length=d.n:=fun d hd=>by rw[← hM1,encM_ss];exact(hB d hd).2
 obtain⟨T,hT⟩:∃ T,(encS 1 style 0 D M).bits=T:=⟨_,rfl⟩
 rw[hT]
 have hR:=rds_on T y
 generalize hl:wout (wbits T)++y=l at hR ⊢
 have hpre:((spotsOf D).foldl (stepE 1 style 0) ⟨M1,[true],[]⟩).bits <+: T:=by rw[← hS,hT];exact List.prefix_refl _
 have h1:Seg T 0 [true]:=by
  unfold Seg
  rw[List.drop_zero]
  exact(foldE_pre style (spotsOf D) ⟨M1,[true],[]⟩).trans hpre
 obtain⟨r1,-⟩:=rd_cons hR h1
 have hr0:rdBit l rdNew=(1,At T 1):=r1
 obtain⟨Sd,c1,c2,c3,pcs,p1,p2,p3,p4,p5,p6,p7⟩:=all_read hR style D ⟨M1,[true],[]⟩ ⟨U,[],At T 1⟩ hnd (fun d hd=>by
  show (0<d.n→BSy (M1 d.bb) (U d.bb) 0)∧(M1 d.bb).ss.length=d.n
  rw[hpl d hd]
  exact⟨(hB d hd).1,by rw[← hpl d hd];exact hln d hd⟩) rfl hpre
 rw[← hS,hT] at c2
 rw[← hS] at p3 p6 p7
 have hpos:0<(encS 1 style 0 D M).bits.length:=by
  rw[hT]
  obtain⟨t,ht⟩:=h1
  rw[List.drop_zero] at ht
  rw[← ht]
  simp
 rw[show (⟨U,[],At T 1⟩:DecS).out++pcs=pcs from rfl] at p1
 refine⟨Sd,?_,?_,c3,by rw[p1];exact p2,by rw[p1];simpa using p3,by rw[p1];exact p4,by rw[p1];exact p5,p6 Fin2.nil,by rw[← hT];exact p7,by rw[← hT];exact hpos⟩
 ·unfold headD
  rw[hr0,if_pos rfl]
  exact c1
 ·rw[c2,← hl]
  unfold At
  rw[List.take_length]
  exact end_on T y
theorem decGo_cut (l:List UInt8) (style:Nat):∀ (qs:List PcM) (M:Nat→BandM) (n:Nat),n≤l.length→l.length - n<sumN qs→(decGo l style qs M n).2=none
 | [],_,_,_,h=>by simp[sumN] at h
 | q::qs,M,n,hn,h=>by
  rw[decGo_cons]
  split
  ·rfl
  ·rename_i hq
   refine decGo_cut l style qs _ _ (by omega) ?_
   have e:sumN (q::qs)=q.n+sumN qs:=by simp[sumN]
   omega
theorem okGo_few (D:List BandA) (l:List UInt8) (style:Nat):∀ (qs:List PcM) (M:Nat→BandM) (n:Nat),sumP qs≤1000→(∀ q∈qs,q.x.d∈D∧q.x.k<q.x.d.n∧q.n≤110000)→(∀ b,∀ s∈(M b).ss,s.ps.length+sumP qs≤1000∧s.bs.length+sumN qs≤9000000∧∀ p∈s.ps,0≤p.1∧p.1≤100000000)→okGo D l style qs M n
 | [],_,_,_,_,_=>trivial
 | q::qs,M,n,hP,hq,hM=>by
  have eP:sumP (q::qs)=q.p+sumP qs:=by simp[sumP]
  have eN:sumN (q::qs)=q.n+sumN qs:=by simp[sumN]
  obtain⟨a1,a2,a3⟩:=hq q List.mem_cons_self
  by_cases hss:∃ s,(M q.x.d.bb).ss[q.x.k]?=some s
  ·obtain⟨s0,hs0⟩:=hss
   have h0:=hM q.x.d.bb s0 (List.mem_of_getElem? hs0)
   refine⟨⟨a1,a2,by omega,by omega,fun s hs=>?_⟩,?_⟩
   ·have:=hM q.x.d.bb s (List.mem_of_getElem? hs)
    omega
   ·refine okGo_few D l style qs _ _ (by omega) (fun x hx=>hq x (List.mem_cons_of_mem _ hx)) fun b s hs=>?_
    by_cases hb:b=q.x.d.bb
    ·rw[hb,updM_same] at hs
     unfold takeB at hs
     rw[hs0] at hs
     simp only at hs
     rcases List.mem_or_eq_of_mem_set hs with h | rfl
     ·have:=hM q.x.d.bb s h
      exact⟨by omega,by omega,this.2.2⟩
     ·have hlen:((l.drop n).take q.n).length≤q.n:=by rw[List.length_take];omega
      have hp:=passGo_inv style (s0.bs++(l.drop n).take q.n).length (by rw[List.length_append];omega) q.p s0.ps h0.2.2
      unfold takeM
      simp only[List.length_append] at hp ⊢
      refine⟨by rw[hp.1];omega,by omega,hp.2⟩
    ·rw[updM_other _ _ hb] at hs
     have:=hM b s hs
     exact⟨by omega,by omega,this.2.2⟩
  ·have hnone:(M q.x.d.bb).ss[q.x.k]?=none:=by
    cases hx:(M q.x.d.bb).ss[q.x.k]? with
    | none=>rfl
    | some s=>exact absurd ⟨s,hx⟩ hss
   have hup:updM M q.x.d.bb (takeB (M q.x.d.bb) q.x.k style q.p ((l.drop n).take q.n))=M:=by
    unfold takeB
    rw[hnone]
    exact updM_self _ _
   have hp1000:q.p≤1000:=by omega
   refine⟨⟨a1,a2,hp1000,by omega,fun s hs=>by rw[hnone] at hs;cases hs⟩,?_⟩
   rw[hup]
   exact okGo_few D l style qs M _ (by omega) (fun x hx=>hq x (List.mem_cons_of_mem _ hx)) fun b s hs=>by have:=hM b s hs;exact⟨by omega,by omega,this.2.2⟩
end
section
theorem blk_pgood (s:ShapeM) (i style k:Nat) (hs:style≤63):PGood (s.most:Int) ⟨((s.blk i style k).planes:Int),(s.blk i style k).passes,(s.blk i style k).bytes,0,3⟩:=by
 have hg:=blk_good s i style k hs
 have hb:=geoV_bounds (i % 4) style (s.n k) s.ns (s.n_le k)
 obtain⟨ok,hby⟩:=encodeM_ok (geoV (i % 4) style (valsM (s.n k) s.ns)) (by show 1≤5;decide)
 have hfin:=encodeM_fin (geoV (i % 4) style (valsM (s.n k) s.ns)) (by show 1≤5;decide)
 have hw:(geoV (i % 4) style (valsM (s.n k) s.ns)).w * (geoV (i % 4) style (valsM (s.n k) s.ns)).h=15:=rfl
 rw[hw] at hby
 unfold ShapeM.blk at hg ⊢
 generalize encodeM (geoV (i % 4) style (valsM (s.n k) s.ns))=B at *
 obtain⟨h1,h2,h3,h4⟩:=hb
 have hlen:=ok.len
 unfold countM at hlen hby
 refine⟨hg,⟨by show (0:Int)≤(B.planes:Int);omega,by show (B.planes:Int)≤12;omega⟩,by show B.passes.length=3 * ((B.planes:Int)).toNat - 2;rw[Int.toNat_natCast];exact hlen,fun hp=>?_,fun hp=>?_,?_,hfin⟩
 ·replace hp:0<B.passes.length:=hp
  have hne:B.passes≠[]:=List.length_pos_iff.1 hp
  have hl:=ok.last hne
  show (B.passes.map (·.1)).getD (B.passes.length - 1) 0=(B.bytes.length:Int)
  rw[List.getLast?_eq_getElem?] at hl
  rw[List.getD_eq_getElem?_getD,List.getElem?_map,hl]
  rfl
 ·exact ok.none (List.eq_nil_of_length_eq_zero hp)
 ·show B.bytes.length≤110000
  have h5:(3 * B.planes - 2) * (16 * (12 * 15+4)+4)≤34 * (16 * (12 * 15+4)+4):=Nat.mul_le_mul_right _ (by omega)
  omega
theorem new_pgood (P:Int) (h:0≤P∧P≤60):PGood P stNew.m:=⟨stNew_good P h,⟨Int.le_refl _,by show (0:Int)≤12;decide⟩,rfl,(fun hp=>absurd hp (Nat.lt_irrefl 0)),fun _=>rfl,Nat.zero_le _,Fin2.nil⟩
theorem frN_one (n:Nat) (h:n≤100):((frN 1 n:Nat):Int)=if n=0 then 1 else 0:=by
 unfold frN
 rw[show ((1:Nat):Int)=1 from rfl,frGo_step]
 have e:=passN_one h
 simp only[Int.natCast_zero,Int.zero_add,e]
 by_cases h0:n=0
 ·subst h0
  rfl
 ·rw[if_neg (by omega),if_neg h0]
  rfl
theorem made_sync (s:ShapeM) (i style:Nat) (hs:style≤63) (hn:0<s.W * s.H):BSy (plantE 1 (s.band i style (s.W * s.H))) s.new 0:=by
 obtain⟨h1,-,h3,h4,h5,h6,h7,h8,h9⟩:=s.band_ss i style (s.W * s.H) (Nat.le_refl _)
 obtain⟨rn,rs⟩:=shape_relN s i style hs
 have hl:=s.lt
 generalize s.band i style (s.W * s.H)=m at *
 have hw1:1≤s.W:=Nat.one_le_iff_ne_zero.2 fun e=>by rw[e,Nat.zero_mul] at hn;omega
 have hh1:1≤s.H:=Nat.one_le_iff_ne_zero.2 fun e=>by rw[e,Nat.mul_zero] at hn;omega
 have hz:∀ x∈m.ss,x.pl≤m.planes∧m.planes≤x.pl+1000:=fun x hx=>by have:=(rn.good x hx).z;omega
 obtain⟨p1,-,-⟩:=planted 1 m (by decide) h6 (by rw[h4];omega) (by rw[h5];omega) (by rw[h1,h4,h5]) (by rw[h7,h4,h5]) (by rw[h8,h4,h5]) hz
 obtain⟨t1,t2,t3,t4,t5,t6,t7⟩:=rplantTo_trees 1 m m.ss.length (Nat.le_refl _)
 have rl:=relS_new rn 1 (by decide) (by omega) false false ⟨rfl,rfl⟩
 have e:plantE 1 m=plantM 1 m:=if_neg (by omega)
 obtain⟨lk,-⟩:=small_tree (w:=s.W) (h:=s.H) ⟨hw1,by omega⟩ ⟨hh1,by omega⟩
 rw[e] at rl ⊢
 have ess:(plantM 1 m).ss=m.ss:=(plantM_ss 1 m).1
 have epl:(plantM 1 m).planes=m.planes:=(plantM_ss 1 m).2
 have hls1:(plantM 1 m).first.map lsL=(treeOf s.W s.H).map lsL:=by
  rw[p1]
  show (fillT _).map lsL=_
  rw[fillT_ls,t6,h7]
  have key:∀ (v:Nat→Int) (T:List LevM) (l:List Nat),(l.foldl (fun T j=>setLeaf T j (v j)) T).map lsL=T.map lsL:=by
   intro v T l
   induction l generalizing T with
   | nil=>rfl
   | cons x l ih=>rw[List.foldl_cons,ih,setLeaf_ls]
  exact key _ _ _
 have hls2:(plantM 1 m).zeros.map lsL=(treeOf s.W s.H).map lsL:=by
  rw[p1]
  show (fillT _).map lsL=_
  rw[fillT_ls,t7,h8]
  have key:∀ (v:Nat→Int) (T:List LevM) (l:List Nat),(l.foldl (fun T j=>setLeaf T j (v j)) T).map lsL=T.map lsL:=by
   intro v T l
   induction l generalizing T with
   | nil=>rfl
   | cons x l ih=>rw[List.foldl_cons,ih,setLeaf_ls]
  exact key _ _ _
 have hleaf:∀ (U:List LevM),U.map lsL=(treeOf s.W s.H).map lsL→∀ j,leafS U j=false:=by
  intro U hU j
  obtain⟨⟨L,R,hLR,-⟩,-⟩:=lk
  rw[hLR] at hU
  cases U with
  | nil=>rfl
  | cons A B =>
   rw[List.map_cons,List.map_cons,List.cons.injEq] at hU
   have h:=(getD_ls hU.1 j).2
   unfold leafS
   simp only
   rw[h]
   exact treeOf_said s.W s.H L (by rw[hLR];exact List.mem_cons_self) j
 have hsl:(plantM 1 m).ss.length=s.W * s.H:=by rw[ess,h1]
 refine⟨by rw[epl,h3];rfl,by rw[epl,h3];omega,by rw[hsl];simp[ShapeM.new,newBandM],fun j _ x hx=>?_,fun j _ hj=>?_,⟨?_,?_⟩,fun j _=>hleaf _ hls1 j,⟨?_,?_⟩,fun j _=>hleaf _ hls2 j⟩
 ·rw[ess] at hx
  have hj:=(List.getElem?_eq_some_iff.1 hx).1
  have hmem:=List.mem_of_getElem? hx
  have hpg:PGood m.planes x∧x.said=0∧x.lb=3:=by
   rw[h3]
   rcases h9 x hmem with rfl | ⟨q,-,rfl⟩
   ·exact⟨new_pgood _ (by omega),rfl,rfl⟩
   ·exact⟨blk_pgood s i style q hs,rfl,rfl⟩
  obtain⟨g1,g2,g3⟩:=hpg
  rw[epl]
  refine⟨g2,g3,g1,?_,?_⟩
  ·rw[p1]
   show leafN (fillT _) j=_
   rw[leafN_fill,t6,h7]
   have:=(leafN_fold (vF 1 m) (s.W * s.H) (treeOf s.W s.H) lk j m.ss.length (by omega)).1
   rw[this,if_pos hj]
   unfold vF
   rw[hx]
   exact frN_one _ g1.g.np
  ·rw[p1]
   show leafN (fillT _) j=_
   rw[leafN_fill,t7,h8]
   have:=(leafN_fold (vZ m) (s.W * s.H) (treeOf s.W s.H) lk j m.ss.length (by omega)).1
   rw[this,if_pos hj]
   unfold vZ
   rw[hx]
 ·rw[hsl] at hj
  exact newBandM_ss _ _ _ hj
 ·exact syT_of _ _ hls1 (treeOf_said _ _)
 ·exact(rl.first (by rw[hsl];exact hn)).2
 ·exact syT_of _ _ hls2 (treeOf_said _ _)
 ·exact(rl.zeros (by rw[hsl];exact hn)).2
def Blank (m:BandM):Prop:=∀ s∈m.ss,s.ps=[]∧s.bs=[]
theorem blank_set {m:BandM} (h:Blank m) (k:Nat) {x:StM} (hx:x.ps=[]∧x.bs=[]) {m':BandM} (e:m'.ss=m.ss.set k x):Blank m':=by
 intro s hs
 rw[e] at hs
 rcases List.mem_or_eq_of_mem_set hs with h1 | rfl
 ·exact h s h1
 ·exact hx
theorem readM_blank {l:List UInt8} {style:Nat} {m:BandM} {d:BandA} {k:Nat} {s:StM} {r:RdM} (hm:Blank m) (hs:s.ps=[]∧s.bs=[]) {q:BandM × List PcM × RdM} (h:readM l style m d k s r=some q):Blank q.1:=by
 obtain⟨m1,s1,r1,ok,hA⟩:∃ m1 s1 r1 ok,readA l m k s r=(m1,s1,r1,ok):=⟨_,_,_,_,rfl⟩
 rw[readM_eq l style m d k s r hA] at h
 have h1:s1.ps=[]∧s1.bs=[]∧Blank m1:=by
  unfold readA at hA
  rw[if_pos (by rw[hs.1];rfl)] at hA
  simp only[Prod.mk.injEq] at hA
  obtain⟨a1,a2,-,-⟩:=hA
  have hb:(begS s (beginM l m k r).2.1).ps=[]∧(begS s (beginM l m k r).2.1).bs=[]:=by cases (beginM l m k r).2.1 <;> exact hs
  refine⟨by rw[← a2];exact hb.1,by rw[← a2];exact hb.2,?_⟩
  rw[← a1]
  exact blank_set hm k hb rfl
 cases ok with
 | false=>simp at h
 | true =>
  rw[if_neg (by simp)] at h
  unfold readB at h
  split at h
  ·cases h
  ·unfold readC at h
   split at h
   ·cases h
   ·cases h
    refine blank_set h1.2.2 k (x:={ s1 with lb:=_ }) ?_ rfl
    exact⟨h1.1,h1.2.1⟩
theorem stepD_blank {l:List UInt8} {style:Nat} {S S':DecS} {x:SpotX} (hM:∀ b,Blank (S.M b)) (h:stepD l style 0 S x=some S'):∀ b,Blank (S'.M b):=by
 unfold stepD at h
 cases hs:(S.M x.d.bb).ss[x.k]? with
 | none=>simp only[hs] at h;cases h;exact hM
 | some s =>
  simp only[hs] at h
  have hb:=hM x.d.bb s (List.mem_of_getElem? hs)
  have hh:Blank (hereM l (S.M x.d.bb) s x.k 0 S.rd).1:=by
   unfold hereM
   split
   ·exact hM x.d.bb
   ·exact hM x.d.bb
  have hup:∀ m',Blank m'→∀ b,Blank (updM S.M x.d.bb m' b):=by
   intro m' hm' b
   unfold updM
   split
   ·exact hm'
   ·exact hM b
  split at h
  ·cases h;exact hup _ hh
  ·cases hq:readM l style (hereM l (S.M x.d.bb) s x.k 0 S.rd).1 x.d x.k s (hereM l (S.M x.d.bb) s x.k 0 S.rd).2.2 with
   | none=>rw[hq] at h;cases h
   | some q =>
    rw[hq] at h
    cases h
    exact hup _ (readM_blank hh hb hq)
theorem foldD_blank (l:List UInt8) (style:Nat):∀ (L:List SpotX) (S S':DecS),(∀ b,Blank (S.M b))→foldD l style 0 (some S) L=some S'→∀ b,Blank (S'.M b)
 | [],S,S',hM,h=>by cases h;exact hM
 | x::L,S,S',hM,h=>by
  have e:foldD l style 0 (some S) (x::L)=foldD l style 0 (stepD l style 0 S x) L:=by unfold foldD;rw[List.foldl_cons];rfl
  rw[e] at h
  cases hx:stepD l style 0 S x with
  | none =>
   rw[hx] at h
   have key:∀ L:List SpotX,foldD l style 0 none L=none:=by
    intro L
    induction L with
    | nil=>rfl
    | cons y L ih=>exact ih
   rw[key] at h
   cases h
  | some S1 =>
   rw[hx] at h
   exact foldD_blank l style L S1 S' (stepD_blank hM hx) h
theorem headD_blank {l:List UInt8} {style:Nat} {D:List BandA} {U:Nat→BandM} (hU:∀ b,Blank (U b)) {S:DecS} (h:headD l style 0 D U=some S):∀ b,Blank (S.M b):=by
 unfold headD at h
 split at h
 ·exact foldD_blank l style _ _ _ hU h
 ·cases h;exact hU
theorem new_goodR (s:ShapeM):GoodR s.new:=by
 have hl:=s.lt
 refine⟨⟨by show (0:Int)≤(s.most:Int);omega,by show (s.most:Int)≤60;omega⟩,?_,fun x hx=>?_⟩
 ·have key:∀ k w h,TreeNN (treeNew k w h):=by
   intro k
   induction k with
   | zero=>intro w h L hL;cases hL
   | succ k ih =>
    intro w h L hL z hz
    have e:∀ z∈(levNew w h).l,0≤z.n:=by
     intro z hz
     rw[List.eq_of_mem_replicate hz]
     decide
    unfold treeNew at hL
    split at hL
    ·rw[List.mem_singleton] at hL;rw[hL] at hz;exact e z hz
    ·rcases List.mem_cons.1 hL with rfl | hL
     ·exact e z hz
     ·exact ih _ _ L hL z hz
  show TreeNN (treeOf s.W s.H)
  unfold treeOf
  split
  ·intro L hL;cases hL
  ·exact key _ _ _
 ·have:x=stNew.m:=List.eq_of_mem_replicate hx
  rw[this]
  exact⟨by show (0:Int)≤60;decide,by show (3:Int)≤24;decide⟩
end
section
theorem wout_len (T:List Bool) (h:0<T.length):0<(wout (wbits T)).length∧(wout (wbits T)).length≤T.length+1:=by
 have h1:=(wbits_inv T).2.2
 have hne:T≠[]:=List.length_pos_iff.1 h
 have e:wbits T=wbit (wbits T.dropLast) (T.getLast hne):=by
  conv=>lhs;rw[← List.dropLast_concat_getLast hne]
  unfold wbits
  rw[List.foldl_append]
  rfl
 have h2:0<(wbits T).1.length:=by
  rw[e]
  exact(wbit_ok (wbits_winv T.dropLast) (T.getLast hne)).2.2.2.1
 unfold wout
 split
 ·rw[List.length_append,List.length_singleton];omega
 ·omega
theorem cuts_law (style:Nat) (D:List BandA) (M U:Nat→BandM) (hmo:moreM 1 0 M (spotsOf D)=true) (hnd:(D.map (·.bb)).Nodup) (hB:∀ d∈D,(0<d.n→BSy (plantE 1 (M d.bb)) (U d.bb) 0)∧(M d.bb).ss.length=d.n) (hsp:(spotsOf D).length≤27) (hU:∀ b,Blank (U b)) (h:List UInt8) (x:List UInt8) (hh:wout (wbits (encS 1 style 0 D M).bits)=h) (hx:(encS 1 style 0 D M).body=x) :
  Fin2 x∧0<h.length∧h.length+x.length≤9000000∧(∀ j,j<x.length→(decodeF (h++x.take j) style 0 D U).1=0∧(decodeF (h++x.take j) style 0 D U).2.1=8∧decodeOk (h++x.take j) style 0 D U)∧∃ Sd,headD (h++x) style 0 D U=some Sd∧endM (h++x) Sd.rd=(h.length,0):=by
 have HR:=fun y=>head_read style D M U y hmo hnd hB
 rw[hh,hx] at HR
 obtain⟨Sd,a1,a2,-,-,a5,a6,a7,a8,a9,a10⟩:=HR x
 have hw:=wout_len _ a10
 rw[hh] at hw
 refine⟨a8,hw.1,by omega,fun j hj=>?_,Sd,a1,a2⟩
 obtain⟨Sj,b1,b2,-,b4,b5,b6,b7,-⟩:=HR (x.take j)
 have hlen:(h++x.take j).length=h.length+j:=by rw[List.length_append,List.length_take];omega
 have hcut:=decGo_cut (h++x.take j) style Sj.out Sj.M h.length (by omega) (by omega)
 obtain⟨q,hq⟩:∃ q,decGo (h++x.take j) style Sj.out Sj.M h.length=q:=⟨_,rfl⟩
 obtain⟨M',o⟩:=q
 rw[hq] at hcut
 simp only at hcut
 subst hcut
 have e:decodeF (h++x.take j) style 0 D U=(0,8,M'):=by
  unfold decodeF
  rw[b1]
  simp only[b2,hq]
  rfl
 refine⟨by rw[e],by rw[e],?_⟩
 unfold decodeOk
 rw[b1]
 intro _
 have hbl:=headD_blank hU b1
 refine okGo_few D _ style _ _ _ (by omega) b4 fun b s hs=>?_
 obtain⟨c1,c2⟩:=hbl b s hs
 rw[c1,c2]
 refine⟨by simp only[List.length_nil];omega,by simp only[List.length_nil];omega,fun p hp=>by cases hp⟩
theorem fin_mark {x:List UInt8} (h:Fin2 x) (hx:2≤x.length):¬ (x.getD 0 0=255∧x.getD 1 0=146):=by
 rintro⟨h0,h1⟩
 have:=h.1 0 (by omega) h0
 rw[h1] at this
 exact absurd this (by decide)
theorem make_cuts (l:List ShapeM) (style:Nat) (hs:style≤63) (Lb:List (BandA × BandM)) (M:Nat→BandM) (L':List (BandA × BandM)) (hk:L'.map (·.1)=Lb.map (·.1)) (h1:L'.map (·.2)=fullB l style) (h2:Lb.map (·.2)=voidB l) (hn:∀ p∈Lb,p.1.n=p.2.w * p.2.h) (hnd:(Lb.map (·.1.bb)).Nodup) (hM:M=modelL L') :
  (∀ d∈Lb.map (·.1),(0<d.n→BSy (plantE 1 (M d.bb)) (modelL Lb d.bb) 0)∧(M d.bb).ss.length=d.n)∧(∀ d∈Lb.map (·.1),d.n≤9)∧(∀ d∈Lb.map (·.1),GoodR (modelL Lb d.bb))∧(∀ b,Blank (modelL Lb b)):=by
 have hnd':(L'.map (·.1.bb)).Nodup:=by
  have e:L'.map (·.1.bb)=(L'.map (·.1)).map (·.bb):=by rw[List.map_map];rfl
  rw[e,hk,List.map_map]
  exact hnd
 have key:∀ p∈Lb,∃ (s:ShapeM) (i:Nat),p.2=s.new∧M p.1.bb=s.band i style (s.W * s.H):=by
  intro p hp
  obtain⟨i,hi,hpi⟩:=List.getElem_of_mem hp
  have e2:(voidB l)[i]?=some p.2:=by rw[← h2,List.getElem?_map,List.getElem?_eq_getElem hi,hpi];rfl
  unfold voidB at e2
  rw[List.getElem?_map] at e2
  cases hl:l[i]? with
  | none=>rw[hl] at e2;cases e2
  | some s =>
   rw[hl] at e2
   have hli:i<L'.length:=by have:=congrArg List.length hk;simp only[List.length_map] at this;omega
   have e3:(fullB l style)[i]?=some (L'[i]).2:=by rw[← h1,List.getElem?_map,List.getElem?_eq_getElem hli];rfl
   unfold fullB at e3
   rw[List.getElem?_mapIdx,hl] at e3
   have e4:(L'[i]).1=p.1:=by
    have:=congrArg (·[i]?) hk
    simp only[List.getElem?_map,List.getElem?_eq_getElem hli,List.getElem?_eq_getElem hi,Option.map_some,Option.some.injEq] at this
    rw[this,hpi]
   have e5:=modelL_mem hnd' (List.getElem_mem hli)
   refine⟨s,i,(Option.some.inj e2).symm,?_⟩
   rw[hM,← e4,e5]
   exact(Option.some.inj e3).symm
 refine⟨fun d hd=>?_,fun d hd=>?_,fun d hd=>?_,?_⟩
 ·obtain⟨p,hp,rfl⟩:=List.mem_map.1 hd
  obtain⟨s,i,e1,e2⟩:=key p hp
  have e3:=hn p hp
  rw[e1] at e3
  replace e3:p.1.n=s.W * s.H:=e3
  rw[modelL_mem hnd hp,e2,e1]
  refine⟨fun h0=>made_sync s i style hs (by omega),?_⟩
  rw[(s.band_ss i style (s.W * s.H) (Nat.le_refl _)).1,e3]
 ·obtain⟨p,hp,rfl⟩:=List.mem_map.1 hd
  obtain⟨s,i,e1,e2⟩:=key p hp
  have e3:=hn p hp
  rw[e1] at e3
  replace e3:p.1.n=s.W * s.H:=e3
  have hl:=s.lt
  have:s.W * s.H≤3 * 3:=Nat.mul_le_mul (by omega) (by omega)
  omega
 ·obtain⟨p,hp,rfl⟩:=List.mem_map.1 hd
  obtain⟨s,i,e1,e2⟩:=key p hp
  rw[modelL_mem hnd hp,e1]
  exact new_goodR s
 ·have hv:∀ p∈Lb,Blank p.2:=by
   intro p hp
   obtain⟨s,i,e1,-⟩:=key p hp
   rw[e1]
   intro x hx
   rw[show x=stNew.m from List.eq_of_mem_replicate hx]
   exact⟨rfl,rfl⟩
  clear key hnd h2 hn hk h1
  induction Lb with
  | nil=>intro b s hs;simp[modelL,newBandM] at hs
  | cons q Lb ih =>
   intro b
   unfold modelL
   split
   ·exact hv q List.mem_cons_self
   ·exact ih (fun p hp=>hv p (List.mem_cons_of_mem _ hp)) b
end
section
open Go.RowKit
theorem marked_cut (A:Option Addr) (n c:Nat) (w:World) (hn:n<2):Calls Tryz.prog 40 #[.slice A n c,.bool true] w fun e w'=>e=.returned (.tuple #[.int .i64 0,.int .i64 8])∧w'=w:=by
 have d:decide ((n:Int)<2)=true:=decide_eq_true (by omega)
 go_enter Tryz.func40,Tryz.ntmps40
 go_wp2_with fail
 go_ret2
 exact⟨rfl,rfl⟩
theorem marked_mark (g o n c:Nat) (b0 b1:UInt8) (w:World) (hn:2≤n) (hn2:n≤9000000) (c0:w.cell? ⟨g,o,none⟩=some (.int .u8 (b0.toNat:Int))) (c1:w.cell? ⟨g,o+1,none⟩=some (.int .u8 (b1.toNat:Int))) (hb:¬ (b0=255∧b1=146)) :
  Calls Tryz.prog 40 #[.slice (some ⟨g,o,none⟩) n c,.bool true] w fun e w'=>e=.returned (.tuple #[.int .i64 0,.int .i64 12])∧w'=w:=by
 have d:decide ((n:Int)<2)=false:=decide_eq_false (by omega)
 have h0:(0:Int)<(n:Int):=by omega
 have h1:(1:Int)<(n:Int):=by omega
 have h2:0<n:=by omega
 have h3:1<n:=by omega
 by_cases e0:b0=255
 ·have e1:¬ b1=146:=fun h=>hb ⟨e0,h⟩
  have n1:¬ ((b1.toNat:Int)=146):=fun h=>e1 (UInt8.toNat_inj.1 (by show b1.toNat=146;omega))
  subst e0
  have d1:((b1.toNat:Int) == 146)=false:=by simp;omega
  clear hb e1
  go_enter Tryz.func40,Tryz.ntmps40
  go_wp2_with fail
  go_ret2
  exact⟨rfl,rfl⟩
 ·have n0:¬ ((b0.toNat:Int)=255):=fun h=>e0 (UInt8.toNat_inj.1 (by show b0.toNat=255;omega))
  have d0:((b0.toNat:Int) == 255)=false:=by simp;omega
  clear hb e0
  go_enter Tryz.func40,Tryz.ntmps40
  go_wp2_with fail
  go_ret2
  exact⟨rfl,rfl⟩
theorem decode_m (A:Option Addr) (c vg n vc:Nat) (D:List BandA) (M:Nat→BandM) (style layer:Nat) (l:List UInt8) (HV HL HB0:List HB) (W:World) (hD:D.length≤1000) (hL:ListH (.slice A D.length c) D HL) (hB:BandsR D M HB0) (hs:Sat W (HV++(HL++HB0))) (hv:RowB (.slice (some ⟨vg,0,none⟩) n vc) l HV) (hll:l.length≤9000000) (hly:layer≤100) (hst:style≤63)
  (hn:(spotsOf D).length≤200) (hg:∀ d∈D,GoodR (M d.bb)) (S:DecS) (n1:Nat) (hhd:headD l style layer D M=some S) (hend:endM l S.rd=(n1,0)) (er:Int) (her:(n<n1+2∧er=8)∨(n1+2≤n∧er=12∧¬ (l.getD n1 0=255∧l.getD (n1+1) 0=146))) :
  Calls Tryz.prog 12 #[.slice A D.length c,.int .i64 (style:Int),.int .i64 (layer:Int),.slice (some ⟨vg,0,none⟩) n vc,.bool true] W fun e w'=>e=.returned (.tuple #[.int .i64 0,.int .i64 er])∧Mv W ((HL++HB0)++HV) w' []:=by
 have hnl:l.length=n:=(hv.len).symm
 have bv:∀ V,Sat V HV→BV V (.slice (some ⟨vg,0,none⟩) n vc) l:=fun V s=>hv.bv s
 have hnc:n≤vc∧vc≤9223372036854775807:=by
  obtain⟨A',c',e,h1,h2,-⟩:=bv W hs.left
  cases e
  unfold maxLen at h2
  omega
 have HD:=Lib.hid (headed_any A c D M style layer _ l HL HB0 W hD hL hB hs.right (bv W hs.left) hll hly hst hn hg)
 rw[hhd] at HD
 have hEL:=(endM_le l S.rd).1
 rw[hend] at hEL
 simp only at hEL
 have MR:Mv W (HL++HB0++HV) W (HL++HB0++HV):=Mv.refl (hs.sub (fun g=>by simp only[cnt_append];omega) (fun y hy=>by simp only[List.mem_append] at hy ⊢;grind))
 have K0:=Lib.hid MR
 have HS:Hid (Calls Tryz.prog 39 #[.slice A D.length c,.int .i64 (style:Int),.int .i64 (layer:Int),.slice (some ⟨vg,0,none⟩) n vc] W fun e w2=>∃ ao co Ho HB',e=.returned (.tuple #[.slice ao S.out.length co,.int .i64 (n1:Int),.int .i64 0])∧Mv W ((HL++HB0)++HV) w2 (Ho++(HV++(HL++HB')))):=Lib.hid (by
  refine HD.out.mono ?_
  rintro e w2 ⟨vo,Ho,HB',rfl,p1,p2,p3⟩
  obtain⟨ao,co,rfl⟩:=p1.slice
  refine⟨ao,co,Ho,HB',by rw[hend];rfl,?_⟩
  exact(Mv.call K0.out p3).sub (fun g=>by simp only[cnt_append];omega) (fun y hy=>by simp only[List.mem_append] at hy ⊢;grind))
 have MK:Hid (∀ V Ho HB',Mv W ((HL++HB0)++HV) V (Ho++(HV++(HL++HB')))→∀ v,v=(if vc=n1 then Value.slice (some ⟨vg,0,none⟩) (n - n1) (vc - n1) else .slice (some ⟨vg,n1,none⟩) (n - n1) (vc - n1))→Calls Tryz.prog 40 #[v,.bool true] V fun e w'=>e=.returned (.tuple #[.int .i64 0,.int .i64 er])∧w'=V):=Lib.hid (by
  intro V Ho HB' m v hve
  subst hve
  rcases her with ⟨h1,rfl⟩ | ⟨h1,rfl,h2⟩
  ·split
   ·exact marked_cut _ _ _ V (by omega)
   ·exact marked_cut _ _ _ V (by omega)
  ·rw[if_neg (by omega)]
   have hb:=bv V m.sat.right.left
   have key:∀ i,i<n→V.cell? ⟨vg,i,none⟩=some (.int .u8 ((l.getD i 0).toNat:Int)):=by
    intro i hi
    have:=(RowH.cell hv m.sat.right.left (show (Value.slice (some ⟨vg,0,none⟩) n vc)=.slice (some ⟨vg,0,none⟩) l.length vc by rw[hnl]) i (by omega)).1
    rw[this]
    unfold cellsB
    rw[List.getElem?_map,List.getElem?_eq_getElem (by omega),List.getD_eq_getElem?_getD,List.getElem?_eq_getElem (by omega)]
    rfl
   exact marked_mark vg n1 (n - n1) (vc - n1) _ _ V (by omega) (by omega) (key n1 (by omega)) (key (n1+1) (by omega)) h2)
 have her0:¬ er=0:=by omega
 have hn1n:n1≤n:=by omega
 obtain⟨no,hno⟩:∃ no,S.out.length=no:=⟨_,rfl⟩
 rw[hno] at HS
 by_cases hvn:vc=n1
 ·have e0:n - n1=0:=by omega
  have e8:er=8:=by omega
  subst e8
  have MC:=Lib.hid (fun (A:Option Addr) (k c:Nat) (V:World) (h:k<2)=>marked_cut A k c V h)
  clear hL hB hs bv hg MR HD K0 hhd hend her hno MK
  subst hvn
  go_enter Tryz.func12,Tryz.ntmps12
  go_wp2_with (first
   | (go_at_call 39;(with_reducible refine HS.out.mono ?_);rintro e w2 ⟨ao,co,Ho,HB1,rfl,p3⟩;have K2:=Lib.hid p3;clear p3)
   | (go_at_call 40;refine(MC.out _ _ _ _ (by omega)).mono ?_;rintro e w3 ⟨rfl,rfl⟩))
  all_goals
   first
    | (exfalso;omega)
    | (go_ret2;exact⟨rfl,K2.out.sub (fun g=>by rw[cnt_nil];omega) (fun b hb=>by cases hb)⟩)
 ·have MC:Hid (∀ V Ho HB',Mv W ((HL++HB0)++HV) V (Ho++(HV++(HL++HB')))→Calls Tryz.prog 40 #[.slice (some ⟨vg,n1,none⟩) (n - n1) (vc - n1),.bool true] V fun e w'=>e=.returned (.tuple #[.int .i64 0,.int .i64 er])∧w'=V):=Lib.hid (fun V Ho HB' m=>MK.out V Ho HB' m _ (by rw[if_neg hvn]))
  clear hL hB hs bv hg MR HD K0 hhd hend her hno MK
  go_enter Tryz.func12,Tryz.ntmps12
  go_wp2_with (first
   | (go_at_call 39;(with_reducible refine HS.out.mono ?_);rintro e w2 ⟨ao,co,Ho,HB1,rfl,p3⟩;have K2:=Lib.hid p3;clear p3)
   | (go_at_call 40;refine(MC.out _ _ _ K2.out).mono ?_;rintro e w3 ⟨rfl,rfl⟩))
  all_goals
   first
    | (exfalso;omega)
    | (go_ret2;exact⟨rfl,K2.out.sub (fun g=>by rw[cnt_nil];omega) (fun b hb=>by cases hb)⟩)
end
end Go.Proofs.YtjngfhgakokejaaGreat
