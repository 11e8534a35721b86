/- A tree's levels when bounds are said: the plain model. waveletref13: Encode: the plain law. waveletref13: Encode: its pieces. waveletref13: Encode. waveletref13: Encode: whole. Trees whose numbers go up: what Encode needs of them, it keeps. Plain. waveletref13: Encode, by places. Small functions of packets: how many passes a layer brings; the k-th block; a flag. How many passes a block has behind a layer; the k-th block. A band's trees are laid: what that is; a band's cells. -/
import Derived.Test.YtjngfhgakokejaaGreatZp03
import Derived.Test.YtjngfhgakokejaaGreatZp04
import Derived.Deep.CutBlock
set_option maxRecDepth 100000
set_option maxHeartbeats 8000000
namespace Go.Proofs.YtjngfhgakokejaaGreat
section
open Go.RowKit
def encT:List LevM→Nat→Nat→Int→List LevM × Int × List Bool
 | [],_,_,_=>([],0,[])
 | L::R,x,y,b =>
  let r:=encT R (x / 2) (y / 2) b
  let e:=encNode (L.at_ x y) r.2.1 b
  (L.set_ x y e.1::r.1,e.1.low,r.2.2++e.2)
theorem encP_map (P:List LvG) (x y:Nat) (b:Int):encT (P.map (·.2)) x y b=((encP P x y b).t.map (·.2),(encP P x y b).low,(encP P x y b).bs):=by
 induction P generalizing x y with
 | nil=>rfl
 | cons p R ih=>simp only [List.map_cons,encT,encP,ih]
def encAt (T:List LevM) (k:Nat) (b:Int):List LevM × List Bool :=
 match T with
 | []=>([],[])
 | L::R=>((encT (L::R) (k % L.w) (k / L.w) b).1,(encT (L::R) (k % L.w) (k / L.w) b).2.2)
theorem encAt_map (P:List LvG) (k:Nat) (b:Int) (p0:LvG) (h:P[0]?=some p0):encAt (P.map (·.2)) k b=((encP P (k % p0.2.w) (k / p0.2.w) b).t.map (·.2),(encP P (k % p0.2.w) (k / p0.2.w) b).bs):=by
 cases P with
 | nil=>simp at h
 | cons p R =>
  simp only [List.getElem?_cons_zero,Option.some.injEq] at h
  subst h
  show ((encT ((p::R).map (·.2)) (k % p.2.w) (k / p.2.w) b).1,(encT ((p::R).map (·.2)) (k % p.2.w) (k / p.2.w) b).2.2)=_
  rw [encP_map]
theorem encT_length (T:List LevM) (x y:Nat) (b:Int):(encT T x y b).1.length=T.length∧0≤(encT T x y b).2.1∧(encT T x y b).2.2.length≤T.length * b.toNat:=by
 have e:=encP_map (T.map fun L=>(0,L)) x y b
 have h:=encP_inv (T.map fun L=>(0,L)) x y b
 have s:=(encP_shape (T.map fun L=>(0,L)) x y b).2
 rw [List.map_map,show ((fun p:LvG=>p.2) ∘ fun L:LevM=>((0:Nat),L))=id from rfl,List.map_id] at e
 rw [e]
 rw [List.length_map] at h
 have s2:=congrArg List.length s
 simp only [List.length_map] at s2 ⊢
 exact ⟨s2,h.1,h.2⟩
theorem encAt_length (T:List LevM) (k:Nat) (b:Int):(encAt T k b).1.length=T.length∧(encAt T k b).2.length≤T.length * b.toNat:=by
 cases T with
 | nil=>exact ⟨rfl,Nat.zero_le _⟩
 | cons L R=>exact ⟨(encT_length _ _ _ _).1,(encT_length _ _ _ _).2.2⟩
def zerosE (T:List LevM) (k:Nat):Nat→List LevM × List Bool
 | 0=>(T,[])
 | n+1=>((encAt (zerosE T k n).1 k ((n+1:Nat):Int)).1,(zerosE T k n).2++(encAt (zerosE T k n).1 k ((n+1:Nat):Int)).2)
theorem zerosE_length (T:List LevM) (k:Nat) (hT:T.length≤20):∀ n,n≤64→(zerosE T k n).1.length=T.length∧(zerosE T k n).2.length≤n * 1280
 | 0,_=>⟨rfl,Nat.zero_le _⟩
 | n+1,h=>by
  obtain ⟨h1,h2⟩:=zerosE_length T k hT n (by omega)
  obtain ⟨h3,h4⟩:=encAt_length (zerosE T k n).1 k ((n+1:Nat):Int)
  refine ⟨h3.trans h1,?_⟩
  show ((zerosE T k n).2++(encAt (zerosE T k n).1 k ((n+1:Nat):Int)).2).length≤_
  rw [List.length_append]
  rw [h1,Int.toNat_natCast] at h4
  have h5:T.length * (n+1)≤20 * 64:=Nat.mul_le_mul hT h
  rw [Nat.succ_mul]
  omega
end
section
open Go.RowKit
theorem wayI_get:∀ (T:List LevM) (a x y j:Nat) (L:LevM),T[j]?=some L→(wayI a T x y)[T.length - 1 - j]?=some (a+offT T j+(y / 2 ^ j * L.w+x / 2 ^ j))
 | [],_,_,_,_,_,h=>by simp at h
 | M::T,a,x,y,0,L,h=>by
  simp at h
  subst h
  simp only [wayI,List.length_cons,Nat.add_sub_cancel,Nat.sub_zero,offT,Nat.add_zero,Nat.pow_zero,Nat.div_one]
  rw [List.getElem?_append_right (by rw [wayI_length];exact Nat.le_refl _),wayI_length,Nat.sub_self]
  rfl
 | M::T,a,x,y,j+1,L,h=>by
  have h':T[j]?=some L:=by simpa using h
  have hj:=(List.getElem?_eq_some_iff.1 h').1
  have ih:=wayI_get T (a+M.l.length) (x / 2) (y / 2) j L h'
  simp only [wayI,List.length_cons,Nat.add_sub_cancel,offT]
  rw [List.getElem?_append_left (by rw [wayI_length];omega),show T.length - (j+1)=T.length - 1 - j by omega,ih]
  rw [Nat.div_div_eq_div_mul,Nat.div_div_eq_div_mul,show 2 * 2 ^ j=2 ^ (j+1) by rw [Nat.pow_succ,Nat.mul_comm],← Nat.add_assoc a]
def Ej (T:List LevM) (x y:Nat) (b:Int) (j:Nat):List LevM × Int × List Bool:=encT (T.drop j) (x / 2 ^ j) (y / 2 ^ j) b
def Sj (T:List LevM) (x y:Nat) (b:Int) (j:Nat):List LevM:=T.take j++(Ej T x y b j).1
def zj (L:LevM) (x y j:Nat):NodeM:=L.at_ (x / 2 ^ j) (y / 2 ^ j)
section
variable {T:List LevM} {x y j:Nat} {b:Int} {L:LevM}
theorem Ej_step (h:T[j]?=some L):Ej T x y b j=(L.set_ (x / 2 ^ j) (y / 2 ^ j) (encNode (zj L x y j) (Ej T x y b (j+1)).2.1 b).1::(Ej T x y b (j+1)).1,(encNode (zj L x y j) (Ej T x y b (j+1)).2.1 b).1.low,(Ej T x y b (j+1)).2.2++(encNode (zj L x y j) (Ej T x y b (j+1)).2.1 b).2):=by
 have hj:=(List.getElem?_eq_some_iff.1 h).1
 have e:T.drop j=L::T.drop (j+1):=by
  rw [List.drop_eq_getElem_cons hj]
  congr 1
  exact (List.getElem?_eq_some_iff.1 h).2
 have ex:x / 2 ^ j / 2=x / 2 ^ (j+1):=by rw [Nat.div_div_eq_div_mul,Nat.pow_succ]
 have ey:y / 2 ^ j / 2=y / 2 ^ (j+1):=by rw [Nat.div_div_eq_div_mul,Nat.pow_succ]
 unfold Ej zj
 rw [e]
 simp only [encT,ex,ey]
theorem Ej_top:Ej T x y b T.length=([],0,[]):=by
 unfold Ej
 rw [List.drop_length]
 rfl
theorem Sj_top:Sj T x y b T.length=T:=by
 unfold Sj
 rw [Ej_top,List.take_length,List.append_nil]
theorem Sj_zero:Sj T x y b 0=(encT T x y b).1∧Ej T x y b 0=encT T x y b:=by
 unfold Sj Ej
 simp
theorem Sj_get (h:T[j]?=some L):(Sj T x y b (j+1))[j]?=some L:=by
 have hj:=(List.getElem?_eq_some_iff.1 h).1
 unfold Sj
 rw [List.getElem?_append_left (by rw [List.length_take];omega),List.getElem?_take,if_pos (by omega),h]
theorem Sj_step (h:T[j]?=some L):Sj T x y b j=(Sj T x y b (j+1)).set j (L.set_ (x / 2 ^ j) (y / 2 ^ j) (encNode (zj L x y j) (Ej T x y b (j+1)).2.1 b).1):=by
 have hj:=(List.getElem?_eq_some_iff.1 h).1
 have e1:T.take (j+1)=T.take j++[L]:=by rw [List.take_add_one,h];rfl
 unfold Sj
 rw [Ej_step h,e1,List.append_assoc,List.set_append_right _ _ (by rw [List.length_take];omega),List.length_take,show j - min j T.length=0 by omega]
 rfl
theorem Sj_shape:∀ (i:Nat),i≤T.length→(Sj T x y b (T.length - i)).map shapeL=T.map shapeL
 | 0,_=>by rw [Nat.sub_zero,Sj_top]
 | i+1,hi=>by
  have ih:=Sj_shape i (by omega)
  obtain ⟨L,hL⟩:∃ L,T[T.length - (i+1)]?=some L:=⟨_,List.getElem?_eq_getElem (by omega)⟩
  have e:T.length - (i+1)+1=T.length - i:=by omega
  rw [Sj_step hL,e,List.map_set]
  have hs:shapeL (L.set_ (x / 2 ^ (T.length - (i+1))) (y / 2 ^ (T.length - (i+1))) (encNode (zj L x y (T.length - (i+1))) (Ej T x y b (T.length - i)).2.1 b).1)=shapeL L:=by simp [shapeL,LevM.set_]
  rw [hs,ih]
  exact set_self' (by rw [List.getElem?_map,hL];rfl)
end
theorem shape_len {T U:List LevM} (h:T.map shapeL=U.map shapeL):T.map (fun L=>L.l.length)=U.map (fun L=>L.l.length):=by
 have:=congrArg (List.map fun (p:Nat × Nat × Nat)=>p.2.2) h
 rw [List.map_map,List.map_map] at this
 exact this
theorem shape_get {T U:List LevM} (h:T.map shapeL=U.map shapeL) {j:Nat} {L:LevM} (hL:U[j]?=some L):∃ M,T[j]?=some M∧M.w=L.w∧M.h=L.h∧M.l.length=L.l.length:=by
 have h4:=congrArg (fun l=>l[j]?) h
 simp only [List.getElem?_map,hL,Option.map_some] at h4
 obtain ⟨q,hq,h5⟩:=Option.map_eq_some_iff.1 h4
 simp only [shapeL,Prod.mk.injEq] at h5
 exact ⟨q,hq,h5.1,h5.2.1,h5.2.2⟩
theorem fillUp_shape:∀ (R:List LevM) (L:LevM),(fillUp L R).map shapeL=R.map shapeL
 | [],_=>rfl
 | M::R,L=>by
  have h:=pullK_shape L M L.l.length
  simp only [fillUp,List.map_cons,fillUp_shape R]
  congr 1
  simp [shapeL,h.1,h.2.1,h.2.2]
theorem fillT_shape (L:LevM) (R:List LevM):(fillT (L::R)).map shapeL=(L::R).map shapeL:=by
 simp only [fillT,List.map_cons,fillUp_shape,List.map_map]
 congr 1
 exact List.map_congr_left fun M _=>by simp [shapeL,top62]
theorem strict_shape {T U:List LevM} (h:T.map shapeL=U.map shapeL) (hs:Strict U):Strict T:=by
 intro A B C ⟨P,hP⟩
 have hA:T[P.length]?=some A:=by rw [← hP,List.getElem?_append_right (Nat.le_refl _),Nat.sub_self];rfl
 have hB:T[P.length+1]?=some B:=by rw [← hP,List.getElem?_append_right (by omega),show P.length+1 - P.length=1 by omega];rfl
 obtain ⟨A',hA',a1,a2,-⟩:=shape_get h.symm hA
 obtain ⟨B',hB',-⟩:=shape_get h.symm hB
 have hl:=(List.getElem?_eq_some_iff.1 hA').1
 have hl2:=(List.getElem?_eq_some_iff.1 hB').1
 have e:U=U.take P.length++A'::B'::U.drop (P.length+2):=by
  conv=>lhs;rw [← List.take_append_drop P.length U]
  congr 1
  rw [List.drop_eq_getElem_cons hl,List.drop_eq_getElem_cons hl2]
  congr 1
  ·exact (List.getElem?_eq_some_iff.1 hA').2
  ·congr 1
   exact (List.getElem?_eq_some_iff.1 hB').2
 rw [← a1,← a2]
 exact hs A' B' _ ⟨_,e.symm⟩
end
section
open Go.RowKit
theorem re_r7 (K:Act→World→Prop) (tb g lg N nl vc lc i k:Nat) (z:NodeM) (u:Int) (w:World) (s1 s2 s3 s4 s5 s6 s7 s9 s11 s12 s13 s14 s15 s16 s17 s18 s19 s20 s21 s22 s23 s24 s25 s26 s27 s28 s29 s30 s31 s32 s33 s34 s35 s36 s37 s38 s39 s40 s41 s42 s43 s44 s45 s46 s47 s48 s49 s50 s51 s52 s53 s54 s55 s56 s57 s58 s59 s60 s61 s62 s63 s64 s65 s66 s67 s68 s69 s70 s71 s72 s73 s74 s75 s76 s77 s78 s79 s80 s81 s82:Value) (hi:i<nl) (hk:k<N)
  (c0:w.cell? ⟨tb,0,none⟩=some (.slice (some ⟨g,0,none⟩) N vc)) (c1:w.cell? ⟨lg,i,none⟩=some (.int .i64 (k:Int)))
  (e0:w.cell? ⟨g,k * 4,none⟩=some (.int .i64 z.n)) (e1:w.cell? ⟨g,k * 4+1,none⟩=some (.int .i64 z.low)) (e2:w.cell? ⟨g,k * 4+2,none⟩=some (.bool z.said)) (e3:w.cell? ⟨g,k * 4+3,none⟩=some (.int .i64 u))
  (_hk1:k≤100000) (_hn1:nl≤100000)
  (hK:∀ (t33 t34 t35 t36 t37 t38 t39 t40 t41 t42:Value),K ⟨List.toArray ((.pointer (some ⟨tb,0,none⟩))::s1::s2::s3::s4::s5::s6::s7::(.slice (some ⟨lg,0,none⟩) nl lc)::s9::(.int .i64 (i:Int))::(.pointer (some ⟨w.heap.size,0,none⟩))::s12::s13::s14::s15::s16::s17::s18::s19::s20::s21::s22::s23::s24::s25::s26::s27::s28::s29::s30::s31::s32::t33::t34::t35::t36::t37::t38::t39::t40::t41::t42::s43::s44::s45::s46::s47::s48::s49::s50::s51::s52::s53::s54::s55::s56::s57::s58::s59::s60::s61::s62::s63::s64::s65::s66::s67::s68::s69::s70::s71::s72::s73::s74::s75::s76::s77::s78::s79::s80::s81::s82::[]),[]⟩ (w.alloc (.cells #[.int .i64 z.n,.int .i64 z.low,.bool z.said,.int .i64 u] 162)).drew) :
  (regionOf 7 Tryz.f37).wp Tryz.prog (Exit.then K noQ) ⟨List.toArray ((.pointer (some ⟨tb,0,none⟩))::s1::s2::s3::s4::s5::s6::s7::(.slice (some ⟨lg,0,none⟩) nl lc)::s9::(.int .i64 (i:Int))::s11::s12::s13::s14::s15::s16::s17::s18::s19::s20::s21::s22::s23::s24::s25::s26::s27::s28::s29::s30::s31::s32::s33::s34::s35::s36::s37::s38::s39::s40::s41::s42::s43::s44::s45::s46::s47::s48::s49::s50::s51::s52::s53::s54::s55::s56::s57::s58::s59::s60::s61::s62::s63::s64::s65::s66::s67::s68::s69::s70::s71::s72::s73::s74::s75::s76::s77::s78::s79::s80::s81::s82::[]),[]⟩ w:=by
 conv in (regionOf _ _)=>whnf
 unfold noQ
 have HK:=Lib.hid hK
 clear hK
 have MA:=mv_alloc w 162 #[.int .i64 0,.int .i64 0,.bool false,.int .i64 0]
 have od:∀ (a:Addr) (v:Value),w.cell? a=some v→(w.alloc (.cells #[.int .i64 0,.int .i64 0,.bool false,.int .i64 0] 162)).cell? a=some v:=fun a v h=>(MA.below0.cell (World.block_lt_of_cell? w _ h)).trans h
 have c0':=od _ _ c0
 have c1':=od _ _ c1
 have e0':=od _ _ e0
 have e1':=od _ _ e1
 have e2':=od _ _ e2
 have e3':=od _ _ e3
 clear od MA
 go_region_law fail
 all_goals exact HK.out _ _ _ _ _ _ _ _ _ _
def rbox (xb:Nat) (z:NodeM) (u:Int):HB:=⟨xb,162,#[.int .i64 z.n,.int .i64 z.low,.bool z.said,.int .i64 u]⟩
theorem bit_one:decide ((1:Int) % 2=1)=true:=by decide
theorem bit_zero:decide ((0:Int) % 2=1)=false:=by decide
theorem re_loop (K:Act→World→Prop) (wb xb:Nat) (b u:Int) (z:NodeM) (bs:List Bool) (HW Y H0:List HB) (w0 w:World) (s0 s2 s4 s5 s6 s7 s8 s9 s10 s12 s13 s14 s15 s16 s17 s18 s19 s20 s21 s22 s23 s24 s25 s26 s27 s28 s29 s30 s31 s32 s33 s34 s35 s36 s37 s38 s39 s40 s41 s42 s43 s44 s45 s46 s47 s48 s49 s50 s51 s52 s53 s54 s55 s56 s57 s58 s59 s60 s61 s62 s63 s64 s65 s66 s67 s68 s69 s70 s71 s72 s73 s74 s75 s76 s77 s78 s79 s80 s81 s82:Value) (hw:RWrB wb bs HW) (m:Mv w0 H0 w (HW++(rbox xb z u::Y))) (hln:z.low≤z.n) (h0:0≤z.low) (hn:z.n≤1000000) (hb:b≤1000) (hbs:bs.length≤60000000)
  (hK:∀ (t48 t49 t50 t51 t52 t53 t54 t55 t56 t57 t58 t59 t60 t61 t62 t63 t64 t65 t66 t67 t68 t69 t70:Value) (wx:World) (HW':List HB),RWrB wb (bs++(encL (b - z.low).toNat z b).2) HW'→Mv w0 H0 wx (HW'++(rbox xb (encL (b - z.low).toNat z b).1 u::Y))→K ⟨List.toArray (s0::(.pointer (some ⟨wb,0,none⟩))::s2::(.int .i64 b)::s4::s5::s6::s7::s8::s9::s10::(.pointer (some ⟨xb,0,none⟩))::s12::s13::s14::s15::s16::s17::s18::s19::s20::s21::s22::s23::s24::s25::s26::s27::s28::s29::s30::s31::s32::s33::s34::s35::s36::s37::s38::s39::s40::s41::s42::s43::s44::s45::s46::s47::t48::t49::t50::t51::t52::t53::t54::t55::t56::t57::t58::t59::t60::t61::t62::t63::t64::t65::t66::t67::t68::t69::t70::s71::s72::s73::s74::s75::s76::s77::s78::s79::s80::s81::s82::[]),[]⟩ wx) :
  (blockOf 2 Tryz.f37).wp Tryz.prog (Exit.then K noQ) ⟨List.toArray (s0::(.pointer (some ⟨wb,0,none⟩))::s2::(.int .i64 b)::s4::s5::s6::s7::s8::s9::s10::(.pointer (some ⟨xb,0,none⟩))::s12::s13::s14::s15::s16::s17::s18::s19::s20::s21::s22::s23::s24::s25::s26::s27::s28::s29::s30::s31::s32::s33::s34::s35::s36::s37::s38::s39::s40::s41::s42::s43::s44::s45::s46::s47::s48::s49::s50::s51::s52::s53::s54::s55::s56::s57::s58::s59::s60::s61::s62::s63::s64::s65::s66::s67::s68::s69::s70::s71::s72::s73::s74::s75::s76::s77::s78::s79::s80::s81::s82::[]),[]⟩ w:=by
 conv in (blockOf _ _)=>whnf
 unfold noQ
 have HK:=Lib.hid hK
 have K0:=Lib.hid (And.intro hw m)
 have HZ:=Lib.hid (And.intro hln (And.intro h0 hn))
 clear hK hw m hln h0 hn
 obtain ⟨E,hE⟩:∃ E,encL (b - z.low).toNat z b=E:=⟨_,rfl⟩
 rw [hE] at HK
 have HE:=Lib.hid hE
 clear hE
 go_wp2_with fail
 go_loopg [] (if z.said=true then 0 else (b - z.low).toNat+1) (fun mm wx=>∃ (z':NodeM) (bs1:List Bool) (HW':List YtjngfhgakokejaaGreat.HB),mm=(if z'.said=true then 0 else (b - z'.low).toNat+1)∧z'.low≤z'.n∧0≤z'.low∧z'.n≤1000000∧bs1.length+(if z'.said=true then 0 else (b - z'.low).toNat+1)≤(b - z.low).toNat+1∧E=((encL (b - z'.low).toNat z' b).1,bs1++(encL (b - z'.low).toNat z' b).2)∧RWrB wb (bs++bs1) HW'∧Mv w0 H0 wx (HW'++(rbox xb z' u::Y)))
 case atStart =>
  refine ⟨z,[],HW,rfl,HZ.out.1,HZ.out.2.1,HZ.out.2.2,?_,?_,by rw [List.append_nil];exact K0.out.1,K0.out.2⟩
  ·simp only [List.length_nil,Nat.zero_add]
   split <;> omega
  ·rw [← HE.out]
   rfl
 case round =>
  clear K0
  obtain ⟨z',bs1,HW1,rfl,hln,h0,hn,hms,hEE,hw,m⟩:=hrel
  obtain ⟨n',low',said'⟩:=z'
  simp only at hln h0 hn hms
  have MB:Mv w0 H0 wr (rbox xb ⟨n',low',said'⟩ u::(HW1++Y)):=m.sub (fun g=>by simp only [cnt_append,cnt_cons];omega) (fun c hc=>by simp only [List.mem_append,List.mem_cons] at hc ⊢;grind)
  have c0:wr.cell? ⟨xb,0,none⟩=some (.int .i64 n'):=MB.cell 0 rfl 0
  have c1:wr.cell? ⟨xb,1,none⟩=some (.int .i64 low'):=MB.cell 0 rfl 1
  have c2:wr.cell? ⟨xb,2,none⟩=some (.bool said'):=MB.cell 0 rfl 2
  by_cases hgo:low'<b∧said'=false
  ·obtain ⟨hlb,rfl⟩:=hgo
   have d1:decide (low'<b)=true:=decide_eq_true hlb
   have hbl:(bs++bs1).length≤80000000:=by
    have:=HZ.out
    simp only [Bool.false_eq_true,if_false] at hms
    rw [List.length_append]
    omega
   have BT:=Lib.hid (fun (v:Int)=>rbit_bs wb (bs++bs1) v wr HW1 hw m.sat.left hbl)
   have KM:=Lib.hid m
   by_cases hnl:n'≤low'
   ·obtain rfl:low'=n':=by omega
    have e1:=encL_one (b - low').toNat ⟨low',low',false⟩ b ⟨hlb,rfl⟩ (Int.le_refl _) rfl
    rw [e1] at hEE
    have KE:=Lib.hid hEE
    have d2:(low' == low')=true:=by simp
    have hms2:bs1.length+1≤(b - z.low).toNat+1:=by
     simp only [Bool.false_eq_true,if_false] at hms
     omega
    clear hEE e1 hw m MB hms
    go_upto_region 12 with (go_at_call 35;(with_reducible refine (BT.out 1).mono ?_);rintro e w2 ⟨rfl,HW2,q1,q2⟩;have K2:=Lib.hid (And.intro q1 (Mv.call KM.out q2));clear q1 q2)
    have MC:Mv w0 H0 w2 (rbox xb ⟨low',low',false⟩ u::(HW2++Y)):=K2.out.2.sub (fun g=>by simp only [cnt_append,cnt_cons];omega) (fun c hc=>by simp only [List.mem_append,List.mem_cons] at hc ⊢;grind)
    have y2:w2.cell? ⟨xb,2,none⟩=some (.bool false):=MC.cell 0 rfl 2
    have yf:w2.frozen? ⟨xb,2,none⟩=false:=MC.frozen 0 rfl 2
    have MD:=MC.set 2 (.bool true)
    have KD:Hid (Mv w0 H0 (w2.setCell ⟨xb,2,none⟩ (.bool true)) (HW2++(rbox xb ⟨low',low',true⟩ u::Y))):=Lib.hid ((show Mv w0 H0 _ (rbox xb ⟨low',low',true⟩ u::(HW2++Y)) from MD).sub (fun g=>by simp only [cnt_append,cnt_cons];omega) (fun c hc=>by simp only [List.mem_append,List.mem_cons] at hc ⊢;grind))
    clear MC MD c0 c1 c2
    go_wp2_with fail
    go_roundg 0
    case measure=>simp
    case rel =>
     refine ⟨⟨low',low',true⟩,bs1++[true],HW2,by simp,Int.le_refl _,h0,hn,by simp;omega,?_,?_,KD.out⟩
     ·rw [KE.out,encL_said _ _ _ (by simp)]
      simp
     ·rw [← List.append_assoc]
      have:=K2.out.1
      rw [bit_one] at this
      exact this
   ·obtain ⟨e0,e1⟩:=encL_zero (b - low').toNat ⟨n',low',false⟩ b ⟨hlb,rfl⟩ hnl rfl
    rw [e1] at hEE
    have KE:=Lib.hid hEE
    have d2:(low' == n')=false:=beq_eq_false_iff_ne.2 (by omega)
    have hms2:bs1.length+1+((b - (low'+1)).toNat+1)≤(b - z.low).toNat+1:=by
     simp only [Bool.false_eq_true,if_false] at hms
     omega
    clear hEE e1 e0 hw m MB hms
    go_upto_region 14 with (go_at_call 35;(with_reducible refine (BT.out 0).mono ?_);rintro e w2 ⟨rfl,HW2,q1,q2⟩;have K2:=Lib.hid (And.intro q1 (Mv.call KM.out q2));clear q1 q2)
    have MC:Mv w0 H0 w2 (rbox xb ⟨n',low',false⟩ u::(HW2++Y)):=K2.out.2.sub (fun g=>by simp only [cnt_append,cnt_cons];omega) (fun c hc=>by simp only [List.mem_append,List.mem_cons] at hc ⊢;grind)
    have y1:w2.cell? ⟨xb,1,none⟩=some (.int .i64 low'):=MC.cell 0 rfl 1
    have yf:w2.frozen? ⟨xb,1,none⟩=false:=MC.frozen 0 rfl 1
    have KD:Hid (Mv w0 H0 (w2.setCell ⟨xb,1,none⟩ (.int .i64 (low'+1))) (HW2++(rbox xb ⟨n',low'+1,false⟩ u::Y))):=Lib.hid ((show Mv w0 H0 _ (rbox xb ⟨n',low'+1,false⟩ u::(HW2++Y)) from MC.set 1 (.int .i64 (low'+1))).sub (fun g=>by simp only [cnt_append,cnt_cons];omega) (fun c hc=>by simp only [List.mem_append,List.mem_cons] at hc ⊢;grind))
    clear MC c0 c1 c2
    go_wp2_with fail
    go_roundg ((b - (low'+1)).toNat+1)
    case measure=>first | (simp only [Bool.false_eq_true,if_false];omega) | omega | (simp;omega)
    case rel =>
     refine ⟨⟨n',low'+1,false⟩,bs1++[false],HW2,by simp,by simp only;omega,by simp only;omega,hn,by simp;omega,?_,?_,KD.out⟩
     ·rw [KE.out]
      simp
     ·rw [← List.append_assoc]
      have:=K2.out.1
      rw [bit_zero] at this
      exact this
  ·have e1:=encL_said (b - low').toNat ⟨n',low',said'⟩ b hgo
   rw [e1,List.append_nil] at hEE
   have hE1:E.1=⟨n',low',said'⟩:=by rw [hEE]
   have hE2:E.2=bs1:=by rw [hEE]
   rw [hE1,hE2] at HK
   have KM:=Lib.hid (And.intro hw m)
   clear hEE hE1 hE2 e1 hw m MB hms
   by_cases hlb:low'<b
   ·have d1:decide (low'<b)=true:=decide_eq_true hlb
    obtain rfl:said'=true:=by
     cases said' with
     | true=>rfl
     | false=>exact absurd ⟨hlb,rfl⟩ hgo
    clear hgo
    go_wp2_with fail
    exact HK.out _ _ _ _ _ _ _ _ _ _ _ _ _ _ _ _ _ _ _ _ _ _ _ _ HW1 KM.out.1 KM.out.2
   ·have d1:decide (low'<b)=false:=decide_eq_false hlb
    clear hgo
    go_wp2_with fail
    exact HK.out _ _ _ _ _ _ _ _ _ _ _ _ _ _ _ _ _ _ _ _ _ _ _ _ HW1 KM.out.1 KM.out.2
end
section
open Go.RowKit
theorem re_r8 (K:Act→World→Prop) (xb:Nat) (a lo:Int) (w:World) (s0 s1 s2 s3 s4 s5 s6 s7 s8 s10 s12 s13 s14 s15 s16 s17 s18 s19 s20 s21 s22 s23 s24 s25 s26 s27 s28 s29 s30 s31 s32 s33 s34 s35 s36 s37 s38 s39 s40 s41 s42 s43 s44 s45 s46 s47 s48 s49 s50 s51 s52 s53 s54 s55 s56 s57 s58 s59 s60 s61 s62 s63 s64 s65 s66 s67 s68 s69 s70 s71 s72 s73 s74 s75 s76 s77 s78 s79 s80 s81 s82:Value) (c1:w.cell? ⟨xb,1,none⟩=some (.int .i64 a)) (f1:w.frozen? ⟨xb,1,none⟩=false)
  (hK:∀ (t43 t44 t45 t46 t47:Value),K ⟨List.toArray (s0::s1::s2::s3::s4::s5::s6::s7::s8::(.int .i64 lo)::s10::(.pointer (some ⟨xb,0,none⟩))::s12::s13::s14::s15::s16::s17::s18::s19::s20::s21::s22::s23::s24::s25::s26::s27::s28::s29::s30::s31::s32::s33::s34::s35::s36::s37::s38::s39::s40::s41::s42::t43::t44::t45::t46::t47::s48::s49::s50::s51::s52::s53::s54::s55::s56::s57::s58::s59::s60::s61::s62::s63::s64::s65::s66::s67::s68::s69::s70::s71::s72::s73::s74::s75::s76::s77::s78::s79::s80::s81::s82::[]),[]⟩ (w.setCell ⟨xb,1,none⟩ (.int .i64 (max a lo)))) :
  (regionOf 8 Tryz.f37).wp Tryz.prog (Exit.then K noQ) ⟨List.toArray (s0::s1::s2::s3::s4::s5::s6::s7::s8::(.int .i64 lo)::s10::(.pointer (some ⟨xb,0,none⟩))::s12::s13::s14::s15::s16::s17::s18::s19::s20::s21::s22::s23::s24::s25::s26::s27::s28::s29::s30::s31::s32::s33::s34::s35::s36::s37::s38::s39::s40::s41::s42::s43::s44::s45::s46::s47::s48::s49::s50::s51::s52::s53::s54::s55::s56::s57::s58::s59::s60::s61::s62::s63::s64::s65::s66::s67::s68::s69::s70::s71::s72::s73::s74::s75::s76::s77::s78::s79::s80::s81::s82::[]),[]⟩ w:=by
 conv in (regionOf _ _)=>whnf
 unfold noQ
 have HK:=Lib.hid hK
 clear hK
 by_cases h:a<lo
 ·have d:decide (a<lo)=true:=decide_eq_true h
  rw [show max a lo=lo by omega] at HK
  go_wp2_with fail
  exact HK.out _ _ _ _ _
 ·have d:decide (a<lo)=false:=decide_eq_false h
  rw [show max a lo=a by omega] at HK
  go_wp2_with fail
  exact HK.out _ _ _ _ _
theorem re_r15 (K:Act→World→Prop) (tb g lg N nl vc lc i k xb:Nat) (z o:NodeM) (u o3:Int) (w:World) (s1 s2 s3 s4 s5 s6 s7 s9 s12 s13 s14 s15 s16 s17 s18 s19 s20 s21 s22 s23 s24 s25 s26 s27 s28 s29 s30 s31 s32 s33 s34 s35 s36 s37 s38 s39 s40 s41 s42 s43 s44 s45 s46 s47 s48 s49 s50 s51 s52 s53 s54 s55 s56 s57 s58 s59 s60 s61 s62 s63 s64 s65 s66 s67 s68 s69 s70 s71 s72 s73 s74 s75 s76 s77 s78 s79 s80 s81 s82:Value) (hi:i<nl) (hk:k<N)
  (c0:w.cell? ⟨tb,0,none⟩=some (.slice (some ⟨g,0,none⟩) N vc)) (c1:w.cell? ⟨lg,i,none⟩=some (.int .i64 (k:Int)))
  (x0:w.cell? ⟨xb,0,none⟩=some (.int .i64 z.n)) (x1:w.cell? ⟨xb,1,none⟩=some (.int .i64 z.low)) (x2:w.cell? ⟨xb,2,none⟩=some (.bool z.said)) (x3:w.cell? ⟨xb,3,none⟩=some (.int .i64 u))
  (e0:w.cell? ⟨g,k * 4,none⟩=some (.int .i64 o.n)) (e1:w.cell? ⟨g,k * 4+1,none⟩=some (.int .i64 o.low)) (e2:w.cell? ⟨g,k * 4+2,none⟩=some (.bool o.said)) (e3:w.cell? ⟨g,k * 4+3,none⟩=some (.int .i64 o3))
  (f0:w.frozen? ⟨g,k * 4,none⟩=false) (f1:w.frozen? ⟨g,k * 4+1,none⟩=false) (f2:w.frozen? ⟨g,k * 4+2,none⟩=false) (f3:w.frozen? ⟨g,k * 4+3,none⟩=false)
  (_hk1:k≤100000) (_hn1:nl≤100000)
  (hK:∀ (t71 t72 t73 t74 t75 t76 t77 t78 t79 t80:Value),K ⟨List.toArray ((.pointer (some ⟨tb,0,none⟩))::s1::s2::s3::s4::s5::s6::s7::(.slice (some ⟨lg,0,none⟩) nl lc)::s9::(.int .i64 (i:Int))::(.pointer (some ⟨xb,0,none⟩))::s12::s13::s14::s15::s16::s17::s18::s19::s20::s21::s22::s23::s24::s25::s26::s27::s28::s29::s30::s31::s32::s33::s34::s35::s36::s37::s38::s39::s40::s41::s42::s43::s44::s45::s46::s47::s48::s49::s50::s51::s52::s53::s54::s55::s56::s57::s58::s59::s60::s61::s62::s63::s64::s65::s66::s67::s68::s69::s70::t71::t72::t73::t74::t75::t76::t77::t78::t79::t80::s81::s82::[]),[]⟩ ((((w.setCell ⟨g,k * 4,none⟩ (.int .i64 z.n)).setCell ⟨g,k * 4+1,none⟩ (.int .i64 z.low)).setCell ⟨g,k * 4+2,none⟩ (.bool z.said)).setCell ⟨g,k * 4+3,none⟩ (.int .i64 u)).drew) :
  (regionOf 15 Tryz.f37).wp Tryz.prog (Exit.then K noQ) ⟨List.toArray ((.pointer (some ⟨tb,0,none⟩))::s1::s2::s3::s4::s5::s6::s7::(.slice (some ⟨lg,0,none⟩) nl lc)::s9::(.int .i64 (i:Int))::(.pointer (some ⟨xb,0,none⟩))::s12::s13::s14::s15::s16::s17::s18::s19::s20::s21::s22::s23::s24::s25::s26::s27::s28::s29::s30::s31::s32::s33::s34::s35::s36::s37::s38::s39::s40::s41::s42::s43::s44::s45::s46::s47::s48::s49::s50::s51::s52::s53::s54::s55::s56::s57::s58::s59::s60::s61::s62::s63::s64::s65::s66::s67::s68::s69::s70::s71::s72::s73::s74::s75::s76::s77::s78::s79::s80::s81::s82::[]),[]⟩ w:=by
 conv in (regionOf _ _)=>whnf
 unfold noQ
 have HK:=Lib.hid hK
 clear hK
 have hiN:(i:Int)<(nl:Int):=by omega
 have hkN:(k:Int)<(N:Int):=by omega
 go_still_tail 10,(by kernel_rfl)
 go_wp2_with fail
 exact HK.out _ _ _ _ _ _ _ _ _ _
def EncOk (T:List LevM) (x y:Nat) (b:Int):Prop:=∀ j L,T[j]?=some L→max (zj L x y j).low (Ej T x y b (j+1)).2.1≤(zj L x y j).n∧0≤(zj L x y j).low∧(zj L x y j).n≤1000000
theorem Ej_length (T:List LevM) (x y:Nat) (b:Int) (j:Nat):(Ej T x y b j).2.2.length≤T.length * b.toNat:=by
 unfold Ej
 have h:=(encT_length (T.drop j) (x / 2 ^ j) (y / 2 ^ j) b).2.2
 rw [List.length_drop] at h
 exact Nat.le_trans h (Nat.mul_le_mul_right _ (by omega))
theorem row_four {w:World} {v:Value} {N:Nat} {l:List (Int × NodeM)} {H:List HB} {g c:Nat} (h:RowH 162 4 v N (rnodesV l) H) (hs:Sat w H) (hv:v=.slice (some ⟨g,0,none⟩) N c) {k:Nat} {p:Int × NodeM} (hk:l[k]?=some p) (hkN:k<N) :
  (w.cell? ⟨g,k * 4,none⟩=some (.int .i64 p.2.n)∧w.cell? ⟨g,k * 4+1,none⟩=some (.int .i64 p.2.low)∧w.cell? ⟨g,k * 4+2,none⟩=some (.bool p.2.said)∧w.cell? ⟨g,k * 4+3,none⟩=some (.int .i64 p.1)) ∧
  (w.frozen? ⟨g,k * 4,none⟩=false∧w.frozen? ⟨g,k * 4+1,none⟩=false∧w.frozen? ⟨g,k * 4+2,none⟩=false∧w.frozen? ⟨g,k * 4+3,none⟩=false):=by
 have hc:=fun j (hj:j<4)=>h.cell hs hv (k * 4+j) (by omega)
 obtain ⟨g0,g1,g2,g3⟩:=rnodesV_get hk
 exact ⟨⟨(hc 0 (by omega)).1.trans g0,(hc 1 (by omega)).1.trans g1,(hc 2 (by omega)).1.trans g2,(hc 3 (by omega)).1.trans g3⟩,(hc 0 (by omega)).2,(hc 1 (by omega)).2,(hc 2 (by omega)).2,(hc 3 (by omega)).2⟩
theorem row_store {w0 w:World} {v:Value} {N:Nat} {l:List (Int × NodeM)} {H H0 R:List HB} {g c:Nat} (h:RowH 162 4 v N (rnodesV l) H) (m:Mv w0 H0 w (H++R)) (hv:v=.slice (some ⟨g,0,none⟩) N c) {k:Nat} {p:Int × NodeM} (hk:l[k]?=some p) (hkN:k<N) (z:NodeM) :
  ∃ H',RowH 162 4 v N (rnodesV (l.set k (p.1,z))) H'∧Mv w0 H0 ((((w.setCell ⟨g,k * 4,none⟩ (.int .i64 z.n)).setCell ⟨g,k * 4+1,none⟩ (.int .i64 z.low)).setCell ⟨g,k * 4+2,none⟩ (.bool z.said)).setCell ⟨g,k * 4+3,none⟩ (.int .i64 p.1)) (H'++R):=by
 have hkl:=(List.getElem?_eq_some_iff.1 hk).1
 have s0:∀ y,(l.set k y)[k]?=some y:=fun y=>List.getElem?_set_self hkl
 obtain ⟨H1,r1,q1⟩:=h.set m.sat.left hv (k * 4) (.int .i64 z.n) (by omega)
 have e1:=rnodesV_set hk (p.1,{ p.2 with n:=z.n }) 0 (by omega) (.int .i64 z.n) rfl
 rw [Nat.add_zero] at e1
 rw [e1] at r1
 obtain ⟨H2,r2,q2⟩:=r1.set q1.sat hv (k * 4+1) (.int .i64 z.low) (by omega)
 have e2:=rnodesV_set (s0 (p.1,{ p.2 with n:=z.n })) (p.1,⟨z.n,z.low,p.2.said⟩) 1 (by omega) (.int .i64 z.low) rfl
 rw [e2,List.set_set] at r2
 obtain ⟨H3,r3,q3⟩:=r2.set q2.sat hv (k * 4+2) (.bool z.said) (by omega)
 have e3:=rnodesV_set (s0 (p.1,⟨z.n,z.low,p.2.said⟩)) (p.1,z) 2 (by omega) (.bool z.said) rfl
 rw [e3,List.set_set] at r3
 obtain ⟨H4,r4,q4⟩:=r3.set q3.sat hv (k * 4+3) (.int .i64 p.1) (by omega)
 have e4:=rnodesV_set (s0 (p.1,z)) (p.1,z) 3 (by omega) (.int .i64 p.1) rfl
 rw [e4,List.set_set] at r4
 exact ⟨H4,r4,Mv.call (Mv.call (Mv.call (Mv.call m q1) q2) q3) q4⟩
end
section
open Go.RowKit
theorem re_sh {w0 w:World} {H0 A B C:List HB} {X:HB} (m:Mv w0 H0 w (A++(X::B)++C)):Mv w0 H0 w (C++(B++(X::A))) :=
 m.sub (fun g=>by simp only [cnt_append,cnt_cons];omega) (fun c hc=>by simp only [List.mem_append,List.mem_cons] at hc ⊢;grind)
theorem rtree_enc (tb wb:Nat) (L0:LevM) (R:List LevM) (fr:Bool) (H HW:List HB) (bs:List Bool) (W:World) (x y:Nat) (b:Int) (T1:List LevM) (hT1:(if fr=true then L0::R else fillT (L0::R))=T1) (h:RTreeH tb (L0::R) fr H) (hw:RWrB wb bs HW) (hs:Sat W (H++HW)) (hd:Dims (L0::R)) (hst:Strict (L0::R)) (hx:x<L0.w) (hy:y<L0.h)
  (hN:offT (L0::R) (L0::R).length≤100000) (hl:(L0::R).length≤20) (hb:0≤b∧b≤1000) (hok:EncOk T1 x y b) (hbs:bs.length≤50000000) :
  Calls Tryz.prog 37 #[.pointer (some ⟨tb,0,none⟩),.pointer (some ⟨wb,0,none⟩),.int .i64 ((y * L0.w+x:Nat):Int),.int .i64 b] W fun e w'=>e=.returned (.tuple #[])∧∃ H' HW',RTreeH tb (encT T1 x y b).1 true H'∧RWrB wb (bs++(encT T1 x y b).2.2) HW'∧Mv W (H++HW) w' (H'++HW'):=by
 have hsh:T1.map shapeL=(L0::R).map shapeL:=by
  rw [← hT1]
  cases fr with
  | true=>rfl
  | false=>exact fillT_shape L0 R
 have hlen:T1.length=(L0::R).length:=by simpa using congrArg List.length hsh
 obtain ⟨L1,hL1,e1,e2,e3⟩:=shape_get hsh (j:=0) rfl
 have hd1:Dims T1:=hd.congr hsh
 have hst1:Strict T1:=strict_shape hsh hst
 have hoff:∀ j,offT T1 j=offT (L0::R) j:=offT_shape (shape_len hsh)
 have hN1:offT T1 T1.length≤100000:=by rw [hoff,hlen];exact hN
 have FI:=rfill_any tb L0 R fr H W h hs.left hd hst hN
 rw [hT1] at FI
 have M0:=Mv.refl hs
 have FIH:Hid (Calls Tryz.prog 80 #[.pointer (some ⟨tb,0,none⟩)] W fun e w'=>e=.returned (.tuple #[])∧∃ H',RTreeH tb T1 true H'∧Mv W (H++HW) w' (H'++HW)):=Lib.hid (by
  refine FI.mono ?_
  rintro e w' ⟨rfl,H',q1,q2⟩
  exact ⟨rfl,H',q1,Mv.call M0 q2⟩)
 have WAY:Hid (∀ V H1,RTreeH tb T1 true H1→Mv W (H++HW) V (H1++HW)→Calls Tryz.prog 81 #[.pointer (some ⟨tb,0,none⟩),.int .i64 ((y * L0.w+x:Nat):Int)] V fun e w'=>∃ v Hn,e=.returned v∧RowI v ((wayI 0 T1 x y).map fun (k:Nat)=>(k:Int)) Hn∧Mv W (H++HW) w' (Hn++H1++HW)):=Lib.hid (by
  intro V H1 q1 q2
  have:=rway_any tb T1 true H1 V L1 x y q1 q2.sat.left hL1 hd1 hst1 (by rw [e1];exact hx) (by rw [e2];exact hy) hN1 (by omega)
  rw [e1] at this
  refine this.mono ?_
  rintro e w' ⟨v,Hn,rfl,h1,h2⟩
  exact ⟨v,Hn,rfl,h1,Mv.call q2 h2⟩)
 have hk0:y * L0.w+x<L0.l.length:=by rw [hd.len0];exact place_lt hx hy
 obtain ⟨v0,Hl0,hH,hr0⟩:=h
 have c1:W.cell? ⟨tb,1,none⟩=some (.int .i64 (L0.l.length:Int)):=by
  rw [hH] at hs
  exact (Mv.refl hs.left).cell 0 rfl 1
 have AT:Hid (∀ j L,T1[j]?=some L→x / 2 ^ j<L.w∧y / 2 ^ j<L.h):=Lib.hid (fun j L hL=>hd1.at_ hL1 (by rw [e1];exact hx) (by rw [e2];exact hy) hL)
 obtain ⟨k0,hk0e⟩:∃ k0,y * L0.w+x=k0:=⟨_,rfl⟩
 obtain ⟨ln,hln⟩:∃ ln,L0.l.length=ln:=⟨_,rfl⟩
 obtain ⟨n,hn⟩:∃ n,T1.length=n:=⟨_,rfl⟩
 rw [hk0e,hln] at hk0
 rw [hk0e] at WAY ⊢
 rw [hln] at c1
 have d1:decide ((k0:Int)<0)=false:=by simp
 have d2:decide ((ln:Int)≤(k0:Int))=false:=by simp;omega
 have hn20:n≤20:=by omega
 have hn1:1≤n:=by
  have:=(List.getElem?_eq_some_iff.1 hL1).1
  omega
 have KX:=Lib.hid (And.intro hd1 (And.intro hN1 (And.intro hok (And.intro hn hw))))
 have hb2:=hb
 obtain ⟨hb0,hb1⟩:=hb
 have BL:Hid (∀ j,(bs++(Ej T1 x y b j).2.2).length≤60000000):=Lib.hid (fun j=>by
  have h1:=Ej_length T1 x y b j
  have h2:T1.length * b.toNat≤20 * 1000:=Nat.mul_le_mul (by omega) (by omega)
  rw [List.length_append]
  omega)
 have hNp:0<(rnodes 0 T1).length:=by
  have h1:=offT_le hL1
  rw [rnodes_length]
  simp only [offT,Nat.zero_add] at h1
  omega
 clear FI M0 hr0 hH hk0e hln hd hst hN hl hoff hsh hlen hst1 hd1 hN1 hok e1 e2 e3 hL1 hs hx hy hb2 hw hT1 hn
 go_enter Tryz.func37,Tryz.ntmps37
 go_upto_region 3 with (first
  | (go_at_call 80;(with_reducible refine FIH.out.mono ?_);rintro e w1 ⟨rfl,H1,q1,q2⟩;have K1:=Lib.hid (And.intro q1 q2);clear q1 q2)
  | (go_at_call 81;(with_reducible refine (WAY.out _ _ K1.out.1 K1.out.2).mono ?_);rintro e w2 ⟨v,Hn,rfl,q1,q2⟩;have K2:=Lib.hid (And.intro q1 q2);clear q1 q2))
 clear FIH WAY c1
 obtain ⟨vt,Hl1,hH1,hr1⟩:=K1.out.1
 obtain ⟨N,hNN⟩:∃ N,(rnodes 0 T1).length=N:=⟨_,rfl⟩
 rw [hNN] at hr1 hNp
 obtain ⟨g,vc,cur,rfl,-⟩:=hr1.form hNp
 obtain ⟨X,hX⟩:∃ X:HB,X=RTreeX tb (.slice (some ⟨g,0,none⟩) N vc) (leavesM T1:Int) true:=⟨_,rfl⟩
 have hH2:H1=X::Hl1:=by rw [hH1,hX];rfl
 have M2:Mv W (H++HW) w2 (HW++(Hl1++(X::Hn))):=by
  have h:=K2.out.2
  rw [hH2] at h
  exact re_sh h
 have hwl:((wayI 0 T1 x y).map fun (k:Nat)=>(k:Int)).length=n:=by rw [List.length_map,wayI_length];exact KX.out.2.2.2.1
 have RW:=K2.out.1
 obtain ⟨va,lc,rfl⟩:=RW.slice
 rw [hwl] at RW ⊢
 obtain ⟨lg,rfl⟩:=RW.form (by omega)
 have hN5:N≤100000:=by
  have h1:=KX.out.2.1
  rw [← hNN,rnodes_length]
  exact h1
 have HX:=Lib.hid (And.intro hX (And.intro hNN RW))
 have K3:=Lib.hid (And.intro hr1 M2)
 clear hr1 M2 K2 K1 hH1 hH2 hX hNN RW hwl hNp
 go_wp2_with fail
 go_loopg [9,10] n (fun mm s9 s10 wx=>∃ (i:Nat) (Hl' HW':List YtjngfhgakokejaaGreat.HB),i≤n∧mm=n - i∧s10=.int .i64 (i:Int)∧s9=.int .i64 (Ej T1 x y b (n - i)).2.1∧RowH 162 4 (.slice (some ⟨g,0,none⟩) N vc) N (rnodesV (rnodes 0 (Sj T1 x y b (n - i)))) Hl'∧RWrB wb (bs++(Ej T1 x y b (n - i)).2.2) HW'∧Mv W (H++HW) wx (HW'++(Hl'++(X::Hn))))
 case atStart =>
  refine ⟨0,Hl1,HW,Nat.zero_le _,rfl,rfl,?_,?_,?_,K3.out.2⟩
  ·rw [Nat.sub_zero,← KX.out.2.2.2.1,Ej_top]
  ·rw [Nat.sub_zero,← KX.out.2.2.2.1,Sj_top]
   exact K3.out.1
  ·rw [Nat.sub_zero,← KX.out.2.2.2.1,Ej_top,List.append_nil]
   exact KX.out.2.2.2.2
 case round =>
  clear K3
  obtain ⟨i,Hl2,HW2,hi,rfl,rfl,rfl,hr,hwr,m⟩:=hrel
  by_cases hlt:i<n
  ·have d3:decide ((i:Int)<(n:Int))=true:=by simp;omega
   obtain ⟨j,hj⟩:∃ j,n - i=j+1:=⟨n - i - 1,by omega⟩
   rw [hj] at hr hwr ⊢
   obtain ⟨L,hL⟩:∃ L,T1[j]?=some L:=⟨_,List.getElem?_eq_getElem (by rw [KX.out.2.2.2.1];omega)⟩
   obtain ⟨hxj,hyj⟩:=AT.out j L hL
   have hLl:=KX.out.1.len hL
   have hp:y / 2 ^ j * L.w+x / 2 ^ j<L.l.length:=by rw [hLl];exact place_lt hxj hyj
   obtain ⟨p,hpe⟩:∃ p,y / 2 ^ j * L.w+x / 2 ^ j=p:=⟨_,rfl⟩
   have hz:L.l[p]?=some (zj L x y j):=by
    unfold zj LevM.at_
    rw [hpe,List.getD_eq_getElem?_getD,List.getElem?_eq_getElem (by rw [← hpe];exact hp)]
    rfl
   have hoj:offT (Sj T1 x y b (j+1)) j=offT T1 j:=by
    have hs:=Sj_shape (T:=T1) (x:=x) (y:=y) (b:=b) i (by rw [KX.out.2.2.2.1];omega)
    rw [KX.out.2.2.2.1,hj] at hs
    exact offT_shape (shape_len hs) j
   have hg:=rnodes_get 0 (Sj_get (x:=x) (y:=y) (b:=b) hL) hz
   have hst:=rnodes_set 0 (Sj_get (x:=x) (y:=y) (b:=b) hL) (p:=p) (by rw [← hpe];exact hp) (encNode (zj L x y j) (Ej T1 x y b (j+1)).2.1 b).1
   rw [hoj,Nat.zero_add] at hg hst
   have hSt:(rnodes 0 (Sj T1 x y b (j+1))).set (offT T1 j+p) (rUp (offT T1 j) L.w L.h p,(encNode (zj L x y j) (Ej T1 x y b (j+1)).2.1 b).1)=rnodes 0 (Sj T1 x y b j):=by
    rw [hst,Sj_step hL]
    unfold LevM.set_
    rw [hpe]
   have hwy:=wayI_get T1 0 x y j L hL
   rw [KX.out.2.2.2.1,show n - 1 - j=i by omega,Nat.zero_add,hpe] at hwy
   obtain ⟨k,hk⟩:∃ k,offT T1 j+p=k:=⟨_,rfl⟩
   rw [hk] at hg hSt hwy
   have hkN:k<N:=by
    have h1:=(List.getElem?_eq_some_iff.1 hg).1
    have h2:(rnodes 0 (Sj T1 x y b (j+1))).length=N:=by
     have h3:=hr.1
     rw [rnodesV_length] at h3
     omega
    omega
   obtain ⟨okl,ok0,okn⟩:=KX.out.2.2.1 j L hL
   have hEs:=Ej_step (x:=x) (y:=y) (b:=b) hL
   have hbl:=BL.out (j+1)
   obtain ⟨E1,hE1⟩:∃ E1,Ej T1 x y b (j+1)=E1:=⟨_,rfl⟩
   rw [hE1] at hwr hSt okl hEs hbl ⊢
   obtain ⟨z,hze⟩:∃ z,zj L x y j=z:=⟨_,rfl⟩
   rw [hze] at hg hSt okl ok0 okn hEs
   obtain ⟨u,hu⟩:∃ u,rUp (offT T1 j) L.w L.h p=u:=⟨_,rfl⟩
   rw [hu] at hg hSt
   obtain ⟨lo,hlo⟩:∃ lo,E1.2.1=lo:=⟨_,rfl⟩
   rw [hlo] at okl hSt hEs ⊢
   obtain ⟨l1,hl1⟩:∃ l1,rnodes 0 (Sj T1 x y b (j+1))=l1:=⟨_,rfl⟩
   rw [hl1] at hr hg hSt
   have mr:Mv W (H++HW) wr (Hl2++(HW2++(X::Hn))):=m.sub (fun g=>by simp only [cnt_append,cnt_cons];omega) (fun c hc=>by simp only [List.mem_append,List.mem_cons] at hc ⊢;grind)
   obtain ⟨⟨r0,r1,r2,r3⟩,-⟩:=row_four hr mr.sat.left rfl hg hkN
   have sX:Hid (∀ V Z,Sat V (Z++(X::Hn))→V.cell? ⟨tb,0,none⟩=some (.slice (some ⟨g,0,none⟩) N vc)∧V.cell? ⟨lg,i,none⟩=some (.int .i64 (k:Int))):=Lib.hid (fun V Z hV=>by
    have h1:=hV.right
    refine ⟨?_,?_⟩
    ·have hb:=h1.at_ 0 (g:=tb) (t:=X.t) (cs:=X.cs) (by rw [HX.out.1];rfl)
     rw [HX.out.1] at hb
     exact hb.cell 0
    ·exact HX.out.2.2.at_ (Sat.right (A:=[_]) h1) (by rw [List.getElem?_map,hwy];rfl))
   have mr2:Mv W (H++HW) wr ((HW2++Hl2)++(X::Hn)):=by rw [List.append_assoc];exact m
   obtain ⟨t0,t1⟩:=sX.out _ _ mr2.sat
   have MA:=(m.alloc 162 #[.int .i64 z.n,.int .i64 z.low,.bool z.said,.int .i64 u]).drew
   have KA:Hid (Mv W (H++HW) (wr.alloc (.cells #[.int .i64 z.n,.int .i64 z.low,.bool z.said,.int .i64 u] 162)).drew (rbox wr.heap.size z u::(HW2++(Hl2++(X::Hn))))):=Lib.hid MA
   have KR:=Lib.hid (And.intro hr (And.intro hwr (And.intro hg (And.intro hSt hEs))))
   have KB:=Lib.hid (And.intro hbl (And.intro okl (And.intro ok0 okn)))
   have KJ:=Lib.hid (And.intro hj hlo)
   clear hr hwr hg hSt hEs hbl okl ok0 okn m mr mr2 MA hz hoj hst hwy hE1 hze hu hk hpe hp hLl hxj hyj hL hj hl1 hlo
   go_upto_region 7 with fail
   refine wp_piece (re_r7 _ tb g lg N n vc lc i k z u wr _ _ _ _ _ _ _ _ _ _ _ _ _ _ _ _ _ _ _ _ _ _ _ _ _ _ _ _ _ _ _ _ _ _ _ _ _ _ _ _ _ _ _ _ _ _ _ _ _ _ _ _ _ _ _ _ _ _ _ _ _ _ _ _ _ _ _ _ _ _ _ _ _ _ _ _ _ _ _ _ hlt hkN t0 t1 r0 r1 r2 r3 (by omega) (by omega) ?_)
   rintro t33 t34 t35 t36 t37 t38 t39 t40 t41 t42
   clear r0 r1 r2 r3 t0 t1
   obtain ⟨xb,hxb⟩:∃ xb,wr.heap.size=xb:=⟨_,rfl⟩
   rw [hxb] at KA ⊢
   generalize (wr.alloc (.cells #[.int .i64 z.n,.int .i64 z.low,.bool z.said,.int .i64 u] 162)).drew=wa at *
   have q1:wa.cell? ⟨xb,1,none⟩=some (.int .i64 z.low):=KA.out.cell 0 rfl 1
   have qf:wa.frozen? ⟨xb,1,none⟩=false:=KA.out.frozen 0 rfl 1
   have M8:Mv W (H++HW) (wa.setCell ⟨xb,1,none⟩ (.int .i64 (max z.low lo))) (rbox xb { z with low:=max z.low lo } u::(HW2++(Hl2++(X::Hn)))):=KA.out.set 1 (.int .i64 (max z.low lo))
   have K8:Hid (Mv W (H++HW) (wa.setCell ⟨xb,1,none⟩ (.int .i64 (max z.low lo))) (HW2++(rbox xb { z with low:=max z.low lo } u::(Hl2++(X::Hn))))):=Lib.hid (M8.sub (fun g=>by simp only [cnt_append,cnt_cons];omega) (fun c hc=>by simp only [List.mem_append,List.mem_cons] at hc ⊢;grind))
   clear M8 hxb KA
   go_upto_region 8 with fail
   refine wp_piece (re_r8 _ xb z.low lo wa _ _ _ _ _ _ _ _ _ _ _ _ _ _ _ _ _ _ _ _ _ _ _ _ _ _ _ _ _ _ _ _ _ _ _ _ _ _ _ _ _ _ _ _ _ _ _ _ _ _ _ _ _ _ _ _ _ _ _ _ _ _ _ _ _ _ _ _ _ _ _ _ _ _ _ _ _ _ _ _ _ q1 qf ?_)
   rintro t43 t44 t45 t46 t47
   clear q1 qf
   generalize wa.setCell ⟨xb,1,none⟩ (.int .i64 (max z.low lo))=wb8 at *
   go_upto_block 2 with fail
   refine wp_piece (re_loop _ wb xb b u { z with low:=max z.low lo } (bs++E1.2.2) HW2 (Hl2++(X::Hn)) (H++HW) W wb8 _ _ _ _ _ _ _ _ _ _ _ _ _ _ _ _ _ _ _ _ _ _ _ _ _ _ _ _ _ _ _ _ _ _ _ _ _ _ _ _ _ _ _ _ _ _ _ _ _ _ _ _ _ _ _ _ _ _ _ _ _ _ _ _ _ _ _ _ _ _ _ _ _ _ _ _ _ _ _ _ KR.out.2.1 K8.out KB.out.2.1 (by have:=KB.out.2.2.1;show 0≤max z.low lo;omega) KB.out.2.2.2 hb1 KB.out.1 ?_)
   rintro t48 t49 t50 t51 t52 t53 t54 t55 t56 t57 t58 t59 t60 t61 t62 t63 t64 t65 t66 t67 t68 t69 t70 wc HW3 q1 q2
   have hen:encL (b - ({ z with low:=max z.low lo }:NodeM).low).toNat { z with low:=max z.low lo } b=encNode z lo b:=rfl
   rw [hen] at q1 q2
   obtain ⟨e,he⟩:∃ e,encNode z lo b=e:=⟨_,rfl⟩
   rw [he] at q1 q2 KR
   have M10:Mv W (H++HW) wc (Hl2++(HW3++(rbox xb e.1 u::(X::Hn)))):=q2.sub (fun g=>by simp only [cnt_append,cnt_cons];omega) (fun c hc=>by simp only [List.mem_append,List.mem_cons] at hc ⊢;grind)
   obtain ⟨⟨r0,r1,r2,r3⟩,f0,f1,f2,f3⟩:=row_four KR.out.1 M10.sat.left rfl KR.out.2.2.1 hkN
   have M11:Mv W (H++HW) wc ((Hl2++(HW3++[rbox xb e.1 u]))++(X::Hn)):=by simpa using M10
   obtain ⟨t0,t1⟩:=sX.out _ _ M11.sat
   have M12:Mv W (H++HW) wc (rbox xb e.1 u::(Hl2++(HW3++(X::Hn)))):=q2.sub (fun g=>by simp only [cnt_append,cnt_cons];omega) (fun c hc=>by simp only [List.mem_append,List.mem_cons] at hc ⊢;grind)
   have x0:wc.cell? ⟨xb,0,none⟩=some (.int .i64 e.1.n):=M12.cell 0 rfl 0
   have x1:wc.cell? ⟨xb,1,none⟩=some (.int .i64 e.1.low):=M12.cell 0 rfl 1
   have x2:wc.cell? ⟨xb,2,none⟩=some (.bool e.1.said):=M12.cell 0 rfl 2
   have x3:wc.cell? ⟨xb,3,none⟩=some (.int .i64 u):=M12.cell 0 rfl 3
   obtain ⟨Hl3,rr,ms⟩:=row_store KR.out.1 M10 rfl KR.out.2.2.1 hkN e.1
   rw [KR.out.2.2.2.1] at rr
   have K15:=Lib.hid (And.intro rr (And.intro q1 ms.drew))
   clear K8 hen he M10 M11 M12 rr ms q1 q2
   go_upto_region 15 with fail
   refine wp_piece (re_r15 _ tb g lg N n vc lc i k xb e.1 z u u wc _ _ _ _ _ _ _ _ _ _ _ _ _ _ _ _ _ _ _ _ _ _ _ _ _ _ _ _ _ _ _ _ _ _ _ _ _ _ _ _ _ _ _ _ _ _ _ _ _ _ _ _ _ _ _ _ _ _ _ _ _ _ _ _ _ _ _ _ _ _ _ _ _ _ _ _ _ _ _ hlt hkN t0 t1 x0 x1 x2 x3 r0 r1 r2 r3 f0 f1 f2 f3 (by omega) (by omega) ?_)
   rintro t71 t72 t73 t74 t75 t76 t77 t78 t79 t80
   clear t0 t1 x0 x1 x2 x3 r0 r1 r2 r3 f0 f1 f2 f3
   generalize ((((wc.setCell ⟨g,k * 4,none⟩ (.int .i64 e.1.n)).setCell ⟨g,k * 4+1,none⟩ (.int .i64 e.1.low)).setCell ⟨g,k * 4+2,none⟩ (.bool e.1.said)).setCell ⟨g,k * 4+3,none⟩ (.int .i64 u)).drew=wd at *
   have M16:Mv W (H++HW) wd (rbox xb e.1 u::(HW3++(Hl3++(X::Hn)))):=K15.out.2.2.sub (fun g=>by simp only [cnt_append,cnt_cons];omega) (fun c hc=>by simp only [List.mem_append,List.mem_cons] at hc ⊢;grind)
   have x1:wd.cell? ⟨xb,1,none⟩=some (.int .i64 e.1.low):=M16.cell 0 rfl 1
   have K16:=Lib.hid M16.drop1
   clear M16
   go_wp2_with fail
   go_roundg (n - (i+1))
   case measure=>omega
   case rel =>
    have hj:=KJ.out.1
    have hEs:=KR.out.2.2.2.2
    refine ⟨i+1,Hl3,HW3,hlt,rfl,by push_cast;rfl,?_,?_,?_,K16.out⟩
    ·rw [show n - (i+1)=j by omega,hEs]
    ·rw [show n - (i+1)=j by omega]
     exact K15.out.1
    ·rw [show n - (i+1)=j by omega,hEs]
     have:=K15.out.2.1
     rw [List.append_assoc] at this
     exact this
  ·obtain rfl:i=n:=by omega
   have d3:decide ((i:Int)<(i:Int))=false:=by simp
   rw [Nat.sub_self,Sj_zero.1] at hr
   rw [Nat.sub_self,Sj_zero.2] at hwr
   have hsz:=Sj_shape (T:=T1) (x:=x) (y:=y) (b:=b) T1.length (Nat.le_refl _)
   rw [Nat.sub_self,Sj_zero.1] at hsz
   have hlv:leavesM (encT T1 x y b).1=leavesM T1:=by
    have h2:=shape_len hsz
    cases h3:(encT T1 x y b).1 with
    | nil =>
     rw [h3] at h2
     have:T1=[]:=by simpa using h2.symm
     rw [this]
    | cons A U =>
     rw [h3] at h2
     cases T1 with
     | nil=>simp at h2
     | cons A' U' =>
      simp only [List.map_cons,List.cons.injEq] at h2
      exact h2.1
   have hln2:(rnodes 0 (encT T1 x y b).1).length=N:=by
    have h3:=hr.1
    rw [rnodesV_length] at h3
    omega
   have K:=Lib.hid (And.intro hr (And.intro hwr (And.intro m (And.intro hlv hln2))))
   clear hr hwr m hlv hln2 hsz hlt
   go_wp2_with fail
   refine bodyPost_end (results_none rfl _ _ _) rfl ⟨rfl,X::Hl2,HW2,⟨.slice (some ⟨g,0,none⟩) N vc,Hl2,?_,?_⟩,K.out.2.1,?_⟩
   ·rw [HX.out.1,K.out.2.2.2.1]
    rfl
   ·rw [K.out.2.2.2.2]
    exact K.out.1
   ·exact K.out.2.2.1.sub (fun g=>by simp only [cnt_append,cnt_cons];omega) (fun c hc=>by simp only [List.mem_append,List.mem_cons] at hc ⊢;grind)
end
section
open Go.RowKit
def nsL (L:LevM):Nat × Nat × List Int:=(L.w,L.h,L.l.map (·.n))
def NodeOk (z:NodeM):Prop:=0≤z.low∧z.low≤z.n∧z.n≤1000000
def AllOk (T:List LevM):Prop:=∀ L∈T,∀ i,i<L.l.length→NodeOk (L.l.getD i nodeD)
def Mono:List LevM→Prop
 | []=>True
 | L::T=>(∀ M T',T=M::T'→∀ x y,x<L.w→y<L.h→(M.at_ (x / 2) (y / 2)).n≤(L.at_ x y).n)∧Mono T
theorem at_ns {L M:LevM} (h:nsL L=nsL M) (x y:Nat):(L.at_ x y).n=(M.at_ x y).n:=by
 simp only [nsL,Prod.mk.injEq] at h
 obtain ⟨h1,-,h3⟩:=h
 unfold LevM.at_
 rw [h1]
 have e:∀ (l:List NodeM) (i:Nat),(l.getD i nodeD).n=(l.map (·.n)).getD i nodeD.n:=by
  intro l i
  simp only [List.getD_eq_getElem?_getD,List.getElem?_map]
  cases l[i]? <;> rfl
 rw [e,e,h3]
theorem Mono.congr:∀ {T U:List LevM},Mono T→U.map nsL=T.map nsL→Mono U
 | [],[],_,_=>trivial
 | [],_::_,_,e=>by simp at e
 | _::_,[],_,e=>by simp at e
 | L::T,K::U,h,e=>by
  rw [List.map_cons,List.map_cons,List.cons.injEq] at e
  refine ⟨?_,h.2.congr e.2⟩
  rintro M T' rfl x y hx hy
  cases T with
  | nil=>simp at e
  | cons N T =>
   have e2:=e.2
   rw [List.map_cons,List.map_cons,List.cons.injEq] at e2
   rw [at_ns e2.1,at_ns e.1]
   have hw:=e.1
   simp only [nsL,Prod.mk.injEq] at hw
   exact h.1 N T rfl x y (by rw [← hw.1];exact hx) (by rw [← hw.2.1];exact hy)
theorem encL_keeps:∀ (f:Nat) (x:NodeM) (b:Int),(encL f x b).1.n=x.n∧(x.low≤x.n→(encL f x b).1.low≤x.n)
 | 0,_,_=>⟨rfl,id⟩
 | f+1,x,b=>by
  unfold encL
  split
  ·split
   ·exact ⟨rfl,id⟩
   ·rename_i h1 h2
    obtain ⟨k1,k2⟩:=encL_keeps f { x with low:=x.low+1,said:=false } b
    exact ⟨k1,fun _=>k2 (show x.low+1≤x.n by omega)⟩
  ·exact ⟨rfl,id⟩
theorem encNode_keeps (x:NodeM) (low b:Int):(encNode x low b).1.n=x.n∧(max x.low low≤x.n→(encNode x low b).1.low≤x.n)∧max x.low low≤(encNode x low b).1.low:=by
 have h:=encL_keeps (b - max x.low low).toNat { x with low:=max x.low low } b
 exact ⟨h.1,h.2,(encL_inv (b - max x.low low).toNat { x with low:=max x.low low } b).2⟩
theorem set_ns (L:LevM) (x y:Nat) (z:NodeM) (hz:z.n=(L.at_ x y).n):nsL (L.set_ x y z)=nsL L:=by
 unfold nsL LevM.set_
 simp only [Prod.mk.injEq,true_and]
 rw [List.map_set,hz]
 unfold LevM.at_
 by_cases h:y * L.w+x<L.l.length
 ·apply set_self'
  rw [List.getElem?_map,List.getD_eq_getElem?_getD,List.getElem?_eq_getElem h]
  rfl
 ·exact List.set_eq_of_length_le (by rw [List.length_map];omega)
theorem encT_ns:∀ (T:List LevM) (x y:Nat) (b:Int),(encT T x y b).1.map nsL=T.map nsL
 | [],_,_,_=>rfl
 | L::R,x,y,b=>by
  simp only [encT,List.map_cons,encT_ns R]
  rw [set_ns _ _ _ _ (encNode_keeps _ _ _).1]
theorem getD_set_node (l:List NodeM) (i j:Nat) (z:NodeM) (P:NodeM→Prop) (hz:P z) (h:P (l.getD j nodeD)):P ((l.set i z).getD j nodeD):=by
 rw [List.getD_eq_getElem?_getD,List.getElem?_set]
 split
 ·rename_i e
  subst e
  split
  ·exact hz
  ·rename_i hh
   rw [List.getD_eq_getElem?_getD,List.getElem?_eq_none (by omega)] at h
   exact h
 ·rw [List.getD_eq_getElem?_getD] at h
  exact h
theorem encT_ok:∀ (T:List LevM) (x y:Nat) (b:Int),Dims T→(∀ L R,T=L::R→x<L.w∧y<L.h)→AllOk T→Mono T →
  AllOk (encT T x y b).1∧(∀ L R,T=L::R→(encT T x y b).2.1≤(L.at_ x y).n)∧EncOk T x y b
 | [],_,_,_,_,_,h,_=>⟨h,nofun,fun j L hL=>by simp at hL⟩
 | L::R,x,y,b,hd,hxy,ha,hm=>by
  obtain ⟨hx,hy⟩:=hxy L R rfl
  have hin:y * L.w+x<L.l.length:=by
   rw [hd.len0]
   have:L.w * (y+1)≤L.w * L.h:=Nat.mul_le_mul_left _ hy
   rw [Nat.mul_add,Nat.mul_one,Nat.mul_comm L.w y] at this
   omega
  have hz:NodeOk (L.at_ x y):=ha L List.mem_cons_self _ hin
  have hR:∀ M R',R=M::R'→x / 2<M.w∧y / 2<M.h:=by
   rintro M R' rfl
   have h1:=hd.at_ (L0:=L) rfl hx hy (i:=1) (L:=M) rfl
   simpa using h1
  obtain ⟨i1,i2,i3⟩:=encT_ok R (x / 2) (y / 2) b hd.tail hR (fun M hM=>ha M (List.mem_cons_of_mem _ hM)) hm.2
  have hlow:(encT R (x / 2) (y / 2) b).2.1≤(L.at_ x y).n:=by
   cases R with
   | nil=>exact Int.le_trans hz.1 hz.2.1
   | cons M R'=>exact Int.le_trans (i2 M R' rfl) (hm.1 M R' rfl x y hx hy)
  have hmax:max (L.at_ x y).low (encT R (x / 2) (y / 2) b).2.1≤(L.at_ x y).n:=by
   have:=hz.2.1
   omega
  obtain ⟨k1,k2,k3⟩:=encNode_keeps (L.at_ x y) (encT R (x / 2) (y / 2) b).2.1 b
  refine ⟨?_,?_,?_⟩
  ·intro K hK
   simp only [encT,List.mem_cons] at hK
   rcases hK with rfl | hK
   ·intro i hi
    refine getD_set_node _ _ _ _ _ ⟨?_,?_,?_⟩ (ha L List.mem_cons_self i (by simpa [LevM.set_] using hi))
    ·have:=hz.1;omega
    ·rw [k1];exact k2 hmax
    ·rw [k1];exact hz.2.2
   ·exact i1 K hK
  ·rintro L' R' e
   cases e
   exact k2 hmax
  ·intro j K hK
   cases j with
   | zero =>
    simp only [List.getElem?_cons_zero,Option.some.injEq] at hK
    subst hK
    simp only [zj,Ej,Nat.pow_zero,Nat.div_one,List.drop_succ_cons,List.drop_zero,Nat.zero_add,Nat.pow_one]
    exact ⟨hmax,hz.1,hz.2.2⟩
   | succ j =>
    have h:=i3 j K (by simpa using hK)
    have e:∀ a k:Nat,a / 2 ^ (k+1)=a / 2 / 2 ^ k:=fun a k=>by rw [Nat.div_div_eq_div_mul,Nat.pow_succ,Nat.mul_comm]
    have ez:zj K x y (j+1)=zj K (x / 2) (y / 2) j:=by unfold zj;rw [e,e]
    have eE:Ej (L::R) x y b (j+1+1)=Ej R (x / 2) (y / 2) b (j+1):=by unfold Ej;rw [List.drop_succ_cons,e x (j+1),e y (j+1)]
    rw [ez,eE]
    exact h
end
section
open Go.RowKit
def TreeGood (T:List LevM) (n:Nat):Prop:=(∃ L R,T=L::R∧n=L.w * L.h)∧Dims T∧Strict T∧offT T T.length≤100000∧T.length≤20
theorem TreeGood.congr {T U:List LevM} {n:Nat} (h:TreeGood T n) (e:U.map shapeL=T.map shapeL):TreeGood U n:=by
 obtain ⟨⟨L,R,rfl,hn⟩,hd,hs,ho,hl⟩:=h
 have hlen:U.length=(L::R).length:=by simpa using congrArg List.length e
 have hoff:=offT_shape (shape_len e) U.length
 refine ⟨?_,hd.congr e,strict_shape e hs,by rw [hoff,hlen];exact ho,by rw [hlen];exact hl⟩
 obtain ⟨K,hK,e1,e2,-⟩:=shape_get e (j:=0) rfl
 cases U with
 | nil=>simp at hK
 | cons M V =>
  simp only [List.getElem?_cons_zero,Option.some.injEq] at hK
  subst hK
  exact ⟨M,V,rfl,by rw [hn,e1,e2]⟩
theorem ns_shape {T U:List LevM} (h:T.map nsL=U.map nsL):T.map shapeL=U.map shapeL:=by
 have e:∀ L:LevM,shapeL L=((nsL L).1,(nsL L).2.1,(nsL L).2.2.length):=fun L=>by simp [shapeL,nsL]
 have:=congrArg (List.map fun q:Nat × Nat × List Int=>(q.1,q.2.1,q.2.2.length)) h
 rw [List.map_map,List.map_map] at this
 have e2:((fun q:Nat × Nat × List Int=>(q.1,q.2.1,q.2.2.length)) ∘ nsL)=shapeL:=funext fun L=>(e L).symm
 rw [e2] at this
 exact this
def EncGood (T:List LevM) (n:Nat):Prop:=TreeGood T n∧Mono T∧AllOk T
theorem place_in {w h k:Nat} (hk:k<w * h):k % w<w∧k / w<h∧k / w * w+k % w=k:=by
 have hw:0<w:=by
  rcases Nat.eq_zero_or_pos w with e | e
  ·subst e;simp at hk
  ·exact e
 exact ⟨Nat.mod_lt _ hw,Nat.div_lt_of_lt_mul hk,Nat.div_add_mod' k w⟩
theorem encAt_good {T:List LevM} {n k:Nat} (b:Int) (hk:k<n) (h:EncGood T n):EncGood (encAt T k b).1 n:=by
 obtain ⟨hT,hm,ha⟩:=h
 obtain ⟨⟨L,R,rfl,hn⟩,hd,-⟩:=id hT
 obtain ⟨p1,p2,-⟩:=place_in (w:=L.w) (h:=L.h) (by rw [← hn];exact hk)
 have e:=encT_ns (L::R) (k % L.w) (k / L.w) b
 refine ⟨hT.congr (ns_shape e),hm.congr e,?_⟩
 exact (encT_ok (L::R) (k % L.w) (k / L.w) b hd (fun L' R' e'=>by cases e';exact ⟨p1,p2⟩) ha hm).1
theorem rtree_at (tb wb:Nat) (T:List LevM) (fr:Bool) (H HW:List HB) (bs:List Bool) (W:World) (n k:Nat) (b:Int) (T1:List LevM) (hT1:(if fr=true then T else fillT T)=T1) (h:RTreeH tb T fr H) (hw:RWrB wb bs HW) (hs:Sat W (H++HW)) (hg:EncGood T1 n) (hk:k<n) (hb:0≤b∧b≤1000) (hbs:bs.length≤50000000) :
  Calls Tryz.prog 37 #[.pointer (some ⟨tb,0,none⟩),.pointer (some ⟨wb,0,none⟩),.int .i64 (k:Int),.int .i64 b] W fun e w'=>e=.returned (.tuple #[])∧∃ H' HW',RTreeH tb (encAt T1 k b).1 true H'∧RWrB wb (bs++(encAt T1 k b).2) HW'∧Mv W (H++HW) w' (H'++HW'):=by
 obtain ⟨hT,hm,ha⟩:=hg
 have hsh:T.map shapeL=T1.map shapeL:=by
  rw [← hT1]
  cases fr with
  | true=>rfl
  | false =>
   cases T with
   | nil=>rfl
   | cons L R=>exact (fillT_shape L R).symm
 obtain ⟨⟨L0,R,rfl,hn⟩,hd,hst,ho,hl⟩:=hT.congr hsh
 obtain ⟨⟨L1,R1,rfl,hn1⟩,hd1,-⟩:=hT
 obtain ⟨K,hK,e1,e2,-⟩:=shape_get hsh (j:=0) rfl
 simp only [List.getElem?_cons_zero,Option.some.injEq] at hK
 subst hK
 obtain ⟨p1,p2,p3⟩:=place_in (w:=L0.w) (h:=L0.h) (by rw [← hn];exact hk)
 have hok:=(encT_ok (L1::R1) (k % L1.w) (k / L1.w) b hd1 (fun L' R' e'=>by cases e';rw [← e1,← e2];exact ⟨p1,p2⟩) ha hm).2.2
 rw [← e1] at hok
 have:=rtree_enc tb wb L0 R fr H HW bs W (k % L0.w) (k / L0.w) b (L1::R1) hT1 h hw hs hd hst p1 p2 ho hl hb hok hbs
 rw [p3] at this
 simp only [encAt,← e1]
 exact this
end
section
open Go.RowKit
def passN (total layers l:Int):Int:=if l<1 then 0 else if layers<1 then 0 else if layers<l then min (max total 0) 100 else min (max total 0) 100 * min l 100 / min layers 100
theorem passN_zero (layers l:Int):passN 0 layers l=0:=by
 unfold passN
 split
 ·rfl
 ·split
  ·rfl
  ·have e:min (max (0:Int) 0) 100=0:=by omega
   rw [e]
   split
   ·rfl
   ·rw [Int.zero_mul,Int.zero_ediv]
theorem passN_le (total layers l:Int):0≤passN total layers l∧passN total layers l≤100:=by
 unfold passN
 split
 ·omega
 ·split
  ·omega
  ·split
   ·omega
   ·have h1:1≤min layers 100:=by omega
    have h2:0≤min (max total 0) 100∧min (max total 0) 100≤100:=by omega
    have h3:1≤min l 100∧min l 100≤min layers 100:=by omega
    generalize min layers 100=a at *
    generalize min (max total 0) 100=b at *
    generalize min l 100=c at *
    constructor
    ·exact Int.ediv_nonneg (Int.mul_nonneg h2.1 (by omega)) (by omega)
    ·have:b * c≤100 * a:=Int.mul_le_mul h2.2 h3.2 (by omega) (by omega)
     exact Int.ediv_le_of_le_mul (by omega) this
theorem pass_mid (t n l a b c:Int) (h1:1≤l) (h2:1≤n) (h3:l≤n) (ha:a=min (max t 0) 100) (hb:b=min l 100) (hc:c=min n 100):wrap64 ((wrap64 (a * b)).tdiv c)=passN t n l:=by
 have e:passN t n l=a * b / c:=by unfold passN;rw [if_neg (by omega),if_neg (by omega),if_neg (by omega),ha,hb,hc]
 have k:=passN_le t n l
 have ha1:0≤a∧a≤100:=by omega
 have hb1:0≤b∧b≤100:=by omega
 have h4:0≤a * b:=Int.mul_nonneg ha1.1 hb1.1
 have h5:a * b≤100 * 100:=Int.mul_le_mul ha1.2 hb1.2 hb1.1 (by omega)
 rw [e] at k ⊢
 rw [← IntWalk.i64_left (a * b),IntWalk.i64_in _ (by omega),Int.tdiv_eq_ediv_of_nonneg h4,← IntWalk.i64_left (a * b / c),IntWalk.i64_in _ (by omega)]
theorem passes_any (t n l:Int) (w:World) (ht:0≤t∧t≤1000000) (hn : -1000000≤n∧n≤1000000) (hl : -1000000≤l∧l≤1000000) :
  Calls Tryz.prog 70 #[.int .i64 t,.int .i64 n,.int .i64 l] w fun e w'=>e=.returned (.int .i64 (passN t n l))∧Mv w [] w' []:=by
 go_enter Tryz.func70,Tryz.ntmps70
 go_wp2_with fail
 all_goals
  go_ret
  refine ⟨?_,Mv.refl (Sat.nil _)⟩
  refine congrArg Ending.returned (congrArg (Value.int .i64) ?_)
  first
  | (unfold passN;omega)
  | exact pass_mid t n l 100 100 100 (by omega) (by omega) (by omega) (by omega) (by omega) (by omega)
  | exact pass_mid t n l _ _ _ (by omega) (by omega) (by omega) (by omega) (by omega) (by omega)
theorem flag_any (b:Bool) (w:World) :
  Calls Tryz.prog 27 #[.bool b] w fun e w'=>e=.returned (.int .i64 (if b then 1 else 0))∧w'=w:=by
 cases b
 all_goals
  go_enter Tryz.func27,Tryz.ntmps27
  go_wp2_with fail
  go_ret
  exact ⟨rfl,rfl⟩
end
section
open Go.RowKit
theorem fresh_any (x:SpotX) (count layer:Int) (w:World) (A:Option Addr) (n c:Nat) (hc:w.cell? ⟨x.d.lb,x.k * 5+1,none⟩=some (.slice A n c)) (_hx:x.k≤100000) (hn:n≤1000000) (hct:0≤count∧count≤100000) (hl : -1≤layer∧layer≤100000) :
  Calls Tryz.prog 24 #[x.v,.int .i64 count,.int .i64 layer] w fun e w'=>e=.returned (.int .i64 (passN n count (layer+1)))∧Mv w [] w' []:=by
 have C:=Lib.hid fun W=>passes_any n count (layer+1) W ⟨by omega,by omega⟩ ⟨by omega,by omega⟩ ⟨by omega,by omega⟩
 have M:=(mv_alloc w 66 x.cells).drop1
 have c1:=((Below.refl w.heap.size w).alloc (Nat.le_refl _) (.cells x.cells 66)).cell (p:=⟨x.d.lb,x.k * 5+1,none⟩) (World.block_lt_of_cell? w _ hc)
 rw [hc] at c1
 have b0:=(Blk.new w 66 x.cells).cell 0
 unfold SpotX.v
 unfold SpotX.cells at M c1 b0
 have K:=Lib.hid M
 clear M
 go_enter Tryz.func24,Tryz.ntmps24
 go_wp2_with (go_at_call 70;with_reducible refine (C.out _).mono ?_;rintro e w2 ⟨rfl,m2⟩;have K2:=Lib.hid m2;clear m2)
 go_ret
 exact ⟨rfl,K.out.trans K2.out⟩
theorem getT_any (tb lb n c:Nat) (k:Int) (w:World) (hc:w.cell? ⟨tb,0,none⟩=some (.slice (some ⟨lb,0,none⟩) n c)) (_hn:n≤100000) :
  Calls Tryz.prog 66 #[.pointer (some ⟨tb,0,none⟩),.int .i64 k] w fun e w'=>w'=w∧e=.returned (if k<0∨(n:Int)≤k then .tuple #[.pointer none,.bool false] else .tuple #[.pointer (some ⟨lb,k.toNat * 5,none⟩),.bool true]):=by
 by_cases h:k<0∨(n:Int)≤k
 ·rw [if_pos h]
  go_enter Tryz.func66,Tryz.ntmps66
  go_wp2_with fail
  all_goals first
  | omega
  | (go_ret2;exact ⟨rfl,rfl⟩)
 ·rw [if_neg h]
  obtain ⟨j,rfl⟩:∃ j:Nat,k=(j:Int):=⟨k.toNat,by omega⟩
  have hj:j<n:=by omega
  have d1:decide ((j:Int)<0)=false:=by simp
  have d2:decide ((n:Int)≤(j:Int))=false:=by simp;omega
  rw [Int.toNat_natCast]
  go_enter Tryz.func66,Tryz.ntmps66
  go_wp2_with fail
  all_goals first
  | omega
  | (go_ret2;exact ⟨rfl,rfl⟩)
end
section
open Go.RowKit
def setUpL:LevM→List LevM→Nat→Nat→List LevM
 | _,[],_,_=>[]
 | B,L::R,x,y=>L.setN (x / 2) (y / 2) (leastM B (x / 2) (y / 2))::setUpL (L.setN (x / 2) (y / 2) (leastM B (x / 2) (y / 2))) R (x / 2) (y / 2)
def setT (T:List LevM) (k:Nat) (n:Int):List LevM :=
 match T with
 | []=>[]
 | L::R=>L.setN (k % L.w) (k / L.w) n::setUpL (L.setN (k % L.w) (k / L.w) n) R (k % L.w) (k / L.w)
theorem setUpP_map (B:LevM) (R:List LvG) (x y:Nat):(setUpP B R x y).map (·.2)=setUpL B (R.map (·.2)) x y:=by
 induction R generalizing B x y with
 | nil=>rfl
 | cons p R ih =>
  show _::_=_::_
  rw [ih]
theorem setP_map (P:List LvG) (k:Nat) (n:Int) (p0:LvG) (h:P[0]?=some p0):(setP P (k % p0.2.w) (k / p0.2.w) n).map (·.2)=setT (P.map (·.2)) k n:=by
 cases P with
 | nil=>simp at h
 | cons p R =>
  simp at h
  subst h
  show _::_=_::_
  rw [setUpP_map]
def frGo (count np:Int):Nat→Nat→Nat
 | 0,n=>n
 | f+1,n=>if passN np count ((n:Int)+1)=0 then frGo count np f (n+1) else n
def frN (count:Nat) (np:Nat):Nat:=frGo count np count 0
def plantStep (count:Nat) (m:BandM) (k:Nat):BandM :=
 match m.ss[k]? with
 | none=>m
 | some s=>{ m with first:=setT m.first k (frN count s.ps.length),zeros:=setT m.zeros k (max (m.planes - s.pl) 0) }
def plantM (count:Nat) (m:BandM):BandM:=if m.set then m else (List.range m.ss.length).foldl (plantStep count) { m with set:=true }
theorem state_cells {w:World} {lb:Nat} {G:List StG} (h:Blk w lb 69 (G.flatMap StG.v).toArray) {k:Nat} {s:StG} (hs:G[k]?=some s) :
  w.cell? ⟨lb,k * 5,none⟩=some (.int .i64 s.m.pl)∧w.cell? ⟨lb,k * 5+1,none⟩=some s.vp∧w.cell? ⟨lb,k * 5+2,none⟩=some s.vb∧w.cell? ⟨lb,k * 5+3,none⟩=some (.int .i64 s.m.said)∧w.cell? ⟨lb,k * 5+4,none⟩=some (.int .i64 s.m.lb)∧∀ i,w.frozen? ⟨lb,i,none⟩=false:=by
 have g:=fun j (hj:j<5)=>flat_get StG.v 5 StG.v_length G k s hs j hj
 have c:=fun i=>h.cell i
 simp only [List.getElem?_toArray] at c
 refine ⟨?_,?_,?_,?_,?_,fun i=>h.frozen i⟩
 ·rw [c];exact g 0 (by omega)
 ·rw [c];exact g 1 (by omega)
 ·rw [c];exact g 2 (by omega)
 ·rw [c];exact g 3 (by omega)
 ·rw [c];exact g 4 (by omega)
theorem BandG.mem_band (b:BandG) (d:BandA):bandB b d∈b.heap d:=List.mem_cons_self
theorem BandG.mem_states (b:BandG) (d:BandA):statesB b d∈b.heap d:=List.mem_cons_of_mem _ List.mem_cons_self
theorem Mv.blkm {w0 w:World} {H0 H:List HB} (h:Mv w0 H0 w H) {x:HB} (hx:x∈H):Blk w x.g x.t x.cs:=h.sat.2 x hx
end
end Go.Proofs.YtjngfhgakokejaaGreat
