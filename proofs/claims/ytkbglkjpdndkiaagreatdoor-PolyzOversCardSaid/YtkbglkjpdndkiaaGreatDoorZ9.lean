/- Joined texts: V2 P2 O1 P3 P4 P5 P6 P7. No condition. -/
import Derived.Test.YtkbglkjpdndkiaaGreatDoorZ8
namespace Go.Proofs.YtkbglkjpdndkiaaGreatDoor
namespace Ab
open Go Go.RowKit
set_option linter.unusedSimpArgs false
set_option linter.unusedVariables false
attribute [local go_sem ↓] x_mv x_pick x_bin x_beq x_peq x_seq x_cat x_aeq x_idxS x_idxV x_un x_cvI x_bts x_idx x_idxA x_fld x_ld x_st x_nn x_prt x_slc x_mk x_bsl x_bld x_box x_alloc x_len x_capo x_mnx x_app x_cpy x_mkf x_ext x_call x_callV x_bad s_none s_some s_nil s_cons s_chks w_skip w_reg tP_fin tP_no tP_alt w_seq w_cond w_block w_exit w_ret t_normal t_exit t_ret b_normal b_ret b_exit n_normal n_exit n_ret p_normal p_ret f_nil f_t f_c k_ops k_chk k_fin
attribute [local go_sem] e_t e_c e_f u_some u_none u_at env_at k_v k_pick k_add k_sub k_mul k_quo k_rem k_and k_or k_xor k_shl k_shr k_eql k_neq k_lss k_leq k_gtr k_geq k_beq k_peqn k_peqs k_neg k_not k_com k_cvI k_idxS k_idxV1 k_idxVn k_idx k_idxA k_idxG k_ldG k_gld k_seq k_cat k_aeq k_eqs k_fld k_ld1 k_ldn k_get k_gets k_sti k_stb k_stp k_sts k_stf k_sta k_put k_nn k_prt1 k_prtn k_slc_a k_slc_b k_slc_c k_mk k_agg k_bsl k_box k_len k_lenS k_cap k_max k_min k_ext k_callV k_true k_false k_gtt k_gtf k_gft k_gsk k_gff k_lit1i k_lit2i k_lit3i k_c0 k_c1 k_ck List.getElem?_cons_zero List.getElem?_cons_succ List.getElem?_nil Option.getD_some Option.getD_none tupOf List.map_cons List.map_nil Option.map_some Option.map_none List.nil_append List.cons_append List.append_nil Nat.mul_one Int.toNat_natCast Nat.zero_add
attribute [local go_sem] e_t e_c e_f u_some u_none u_at env_at k_v k_pick k_add k_sub k_mul k_quo k_rem k_and k_or k_xor k_shl k_shr k_eql k_neq k_lss k_leq k_gtr k_geq k_beq k_peqn k_peqs k_neg k_not k_com k_cvI k_idxS k_idxV1 k_idxVn k_idx k_idxA k_idxG k_ldG k_gld k_seq k_cat k_aeq k_eqs k_fld k_ld1 k_ldn k_get k_gets k_sti k_stb k_stp k_sts k_stf k_sta k_put k_nn k_prt1 k_prtn k_slc_a k_slc_b k_slc_c k_mk k_agg k_bsl k_box k_len k_lenS k_cap k_max k_min k_ext k_callV k_true k_false k_gtt k_gtf k_gft k_gsk k_gff k_lit1i k_lit2i k_lit3i k_c0 k_c1 k_ck List.getElem?_cons_zero List.getElem?_cons_succ List.getElem?_nil Option.getD_some Option.getD_none tupOf List.map_cons List.map_nil Option.map_some Option.map_none List.nil_append List.cons_append List.append_nil Nat.mul_one Int.toNat_natCast Nat.zero_add
--what a store into a cell of two leaves
attribute [local go_sem_proc] Nat.reduceEqDiff Nat.reduceAdd Int.reduceToNat
attribute [local go_sem_proc ↓] reduceIte
attribute [local go_sem] Bool.false_eq_true
section
set_option maxRecDepth 100000
def AllC {α:Type} (z:Nat) (R:List AV→α→Prop) (cs:List AV) (xs:List α):Prop:=cs.length=xs.length*z∧∀(j:Nat) (x:α),xs[j]? =some x→R ((cs.drop (j*z)).take z) x
theorem AllC.nil {α:Type} (z:Nat) (R:List AV→α→Prop):AllC z R [] []:=⟨by simp,fun _ _ h=>by simp at h⟩
theorem AllC.mono {α:Type} {z:Nat} {R R':List AV→α→Prop} {cs:List AV} {xs:List α} (h:AllC z R cs xs) (hr:∀c x,R c x→R' c x):AllC z R' cs xs:=⟨h.1,fun j x h1=>hr _ x (h.2 j x h1)⟩
theorem AllC.snoc {α:Type} {z:Nat} {R:List AV→α→Prop} {cs l:List AV} {xs:List α} (h:AllC z R cs xs) {x:α} (hz:l.length=z) (hc:R l x):AllC z R (cs++l) (xs++[x]):=by
 refine⟨by simp[h.1,hz,Nat.add_mul],fun j x' h2=> ?_⟩
 rcases Nat.lt_or_ge j xs.length with hj|hj
 ·rw[List.getElem?_append_left hj] at h2
  have h3:j*z+z≤cs.length:=by rw[h.1,←Nat.succ_mul];exact Nat.mul_le_mul_right _ hj
  rw[List.drop_append_of_le_length (by omega),List.take_append_of_le_length (by simp;omega)]
  exact h.2 j x' h2
 ·rw[List.getElem?_append_right hj] at h2
  rcases hjj:j-xs.length with _|k
  ·rw[hjj] at h2
   simp at h2
   subst h2
   have:j=xs.length:=by omega
   rw[this,←h.1,List.drop_left,List.take_of_length_le (by omega)]
   exact hc
  ·rw[hjj] at h2
   simp at h2
theorem chunk_le {j n z:Nat} (h:j<n):j*z+z≤n*z:=by rw[←Nat.succ_mul];exact Nat.mul_le_mul_right _ h
theorem AllC.drop {α:Type} {z:Nat} {R:List AV→α→Prop} {cs:List AV} {xs:List α} (h:AllC z R cs xs) (n:Nat):AllC z R (cs.drop (n*z)) (xs.drop n):=by
 refine⟨by simp[h.1,Nat.sub_mul],fun j x h2=> ?_⟩
 rw[List.getElem?_drop] at h2
 rw[List.drop_drop,←Nat.add_mul]
 exact h.2 _ x h2
theorem AllC.take {α:Type} {z:Nat} {R:List AV→α→Prop} {cs:List AV} {xs:List α} (h:AllC z R cs xs) (n:Nat):AllC z R (cs.take (n*z)) (xs.take n):=by
 refine⟨?_,fun j x h2=> ?_⟩
 ·simp only[List.length_take,h.1]
  rcases Nat.le_total n xs.length with h1|h1
  ·have:=Nat.mul_le_mul_right z h1
   rw[Nat.min_eq_left this,Nat.min_eq_left h1]
  ·have:=Nat.mul_le_mul_right z h1
   rw[Nat.min_eq_right this,Nat.min_eq_right h1]
 ·rw[List.getElem?_take] at h2
  split at h2
  ·rename_i hj
   have:=chunk_le (z:=z) hj
   rw[List.drop_take,List.take_take,Nat.min_eq_left (by omega)]
   exact h.2 j x h2
  ·cases h2
theorem AllC.set {α:Type} {z:Nat} {R:List AV→α→Prop} {cs l:List AV} {xs:List α} (h:AllC z R cs xs) {j:Nat} {x:α} (hj:j<xs.length) (hz:l.length=z) (hc:R l x):AllC z R (putAt cs (j*z) l) (xs.set j x):=by
 have h0:=chunk_le (z:=z) hj
 have hl:=h.1
 refine⟨by rw[putAt_len (by omega),List.length_set];exact hl,fun k y h2=> ?_⟩
 rw[List.getElem?_set] at h2
 have ext:∀m,(((putAt cs (j*z) l).drop (k*z)).take z)[m]? =if m<z then(if j*z≤k*z+m∧k*z+m<j*z+z then l[k*z+m-j*z]? else cs[k*z+m]?) else none:=by
  intro m
  rw[List.getElem?_take]
  split
  ·rw[List.getElem?_drop,putAt_get (by omega),hz]
  ·rfl
 split at h2
 ·rename_i e
  subst e
  injection h2 with h2
  subst h2
  have:((putAt cs (j*z) l).drop (j*z)).take z=l:=by
   apply List.ext_getElem?
   intro m
   rw[ext m]
   split
   ·rw[if_pos (by omega),show j*z+m-j*z=m by omega]
   ·rw[List.getElem?_eq_none (by omega)]
  rw[this]
  exact hc
 ·rename_i hne
  have hk:k<xs.length:=(List.getElem?_eq_some_iff.1 h2).1
  have:((putAt cs (j*z) l).drop (k*z)).take z=(cs.drop (k*z)).take z:=by
   apply List.ext_getElem?
   intro m
   rw[ext m,List.getElem?_take,List.getElem?_drop]
   split
   ·rename_i hm
    rw[if_neg]
    rcases Nat.lt_or_gt_of_ne hne with h3|h3
    ·have:=chunk_le (z:=z) h3;omega
    ·have:=chunk_le (z:=z) h3;omega
   ·rfl
  rw[this]
  exact h.2 k y h2
def IsA {α:Type} (z:Nat) (R:H→List AV→α→Prop) (h:H) (v:AV) (xs:List α):Prop:=∃cs,IsC z h v xs.length cs∧AllC z (R h) cs xs
def Grows {α:Type} (R:H→List AV→α→Prop):Prop:=∀⦃h h':H⦄ ⦃c:List AV⦄ ⦃x:α⦄,R h c x→h.le h'→R h' c x
theorem IsA.form {α:Type} {z:Nat} {R:H→List AV→α→Prop} {h:H} {v:AV} {xs:List α} (hv:IsA z R h v xs):∃id off c,v= .sl id off xs.length c:=by
 obtain⟨cs,h1,_⟩:=hv
 exact h1.form
theorem IsA.mono {α:Type} {z:Nat} {R:H→List AV→α→Prop} (hR:Grows R) {h h':H} {v:AV} {xs:List α} (hv:IsA z R h v xs) (hl:h.le h'):IsA z R h' v xs:=by
 obtain⟨cs,h1,h2⟩:=hv
 exact⟨cs,h1.mono hl,h2.mono fun c x hc=>hR hc hl⟩
theorem take_one {l:List AV} {j:Nat} (h:j<l.length):(l.drop j).take 1=[l[j]]:=by
 rw[List.drop_eq_getElem_cons h]
 rfl
theorem IsA.at1 {α:Type} {R:H→List AV→α→Prop} {h:H} {id:Option Nat} {off n:Nat} {c:Option Nat} {xs:List α} (hv:IsA 1 R h (.sl id off n c) xs) {j:Nat} (hj:j<xs.length):∃i a,id=some i∧n=xs.length∧h.get i (off+j)=some a∧R h [a] xs[j]:=by
 obtain⟨cs,h1,h2⟩:=hv
 obtain⟨i,e1,e2,e3⟩:=h1.at (j:=j) (by omega)
 have hl:=h2.1
 have h3:=h2.2 j _ (List.getElem?_eq_getElem hj)
 rw[Nat.mul_one,take_one (by omega)] at h3
 exact⟨i,cs[j],e1,e2,e3.trans (List.getElem?_eq_getElem (by omega)),h3⟩
theorem IsA.atz {α:Type} {z:Nat} {R:H→List AV→α→Prop} {h:H} {id:Option Nat} {off n:Nat} {c:Option Nat} {xs:List α} (hz:0<z) (hv:IsA z R h (.sl id off n c) xs) {j:Nat} (hj:j<xs.length):∃i l,id=some i∧n=xs.length∧l.length=z∧h.gets i (off+j*z) z=some l∧(∀k,k<z→h.get i (off+j*z+k)=l[k]?)∧R h l xs[j]:=by
 obtain⟨cs,h1,h2⟩:=hv
 have h0:=chunk_le (z:=z) hj
 obtain⟨i,e1,e2,e3⟩:=h1.ats (j:=j*z) (w:=z) (by omega) hz
 have hl:=h2.1
 refine⟨i,_,e1,e2,by simp;omega,e3,fun k hk=> ?_,h2.2 j _ (List.getElem?_eq_getElem hj)⟩
 obtain⟨i',f1,_,f3⟩:=h1.at (j:=j*z+k) (by omega)
 rw[e1] at f1
 injection f1 with f1
 subst f1
 rw[Nat.add_assoc,f3,List.getElem?_take,if_pos hk,List.getElem?_drop]
theorem IsA.row {α:Type} {z:Nat} {R:H→List AV→α→Prop} {h:H} {id:Option Nat} {off n:Nat} {c:Option Nat} {xs:List α} (hv:IsA z R h (.sl id off n c) xs):∀i,id=some i→∃r,h.rows i=some r∧(r.own=none∨r.esz=z):=by
 obtain⟨cs,h1,_⟩:=hv
 exact h1.row
theorem IsA.nil {α:Type} (z:Nat) (R:H→List AV→α→Prop) (h:H) (c:Option Nat):IsA z R h (.sl none 0 0 c) []:=⟨[],IsC.nil _ _ _,AllC.nil _ _⟩
theorem IsA.cut {α:Type} {z n:Nat} {R:H→List AV→α→Prop} {h:H} {id:Option Nat} {off:Nat} {c c':Option Nat} {xs:List α} (hv:IsA z R h (.sl id off n c) xs) {a b:Nat} (hab:a≤b) (hb:b≤xs.length):IsA z R h (.sl id (off+a*z) (b-a) c') ((xs.take b).drop a):=by
 obtain⟨cs,h1,h2⟩:=hv
 refine⟨_, ?_,(h2.take b).drop a⟩
 have hl:((xs.take b).drop a).length=b-a:=by simp;omega
 rw[hl]
 exact h1.cut (c':=c') hab hb
def Live {α:Type} (t:TypeId) (z b:Nat) (R:H→List AV→α→Prop) (h:H) (v:AV) (xs:List α):Prop:=∃io c cs,v= .sl io 0 xs.length c∧IsCF t z b h v xs.length cs∧AllC z (R (h.del io)) cs xs
theorem H.del_le {h:H} (o:Option Nat):(h.del o).le h:=⟨Nat.le_refl _,fun i r e=>by
 simp only[H.del] at e
 split at e
 ·cases e
 ·exact e⟩
theorem H.del_mono {h h':H} (hl:h.le h') (o:Option Nat):(h.del o).le (h'.del o):=⟨hl.1,fun i r e=>by
 simp only[H.del] at e⊢
 split at e
 ·cases e
 ·rename_i hi;rw[if_neg hi];exact hl.2 i r e⟩
theorem H.get_le {a h:H} (hl:a.le h) {i j:Nat} {v:AV} (e:a.get i j=some v):h.get i j=some v:=by
 unfold H.get at*
 cases hr:a.rows i with
 |none=>rw[hr] at e;cases e
 |some r=>rw[hr] at e;rw[hl.2 _ _ hr];exact e
theorem Live.nil {α:Type} (t:TypeId) (z b:Nat) (R:H→List AV→α→Prop) (h:H) (c:Option Nat):Live t z b R h (.sl none 0 0 c) []:=⟨none,c,[],rfl,IsCF.nil _ _ _ _ _,AllC.nil _ _⟩
theorem Live.form {α:Type} {t:TypeId} {z b:Nat} {R:H→List AV→α→Prop} {h:H} {v:AV} {xs:List α} (hv:Live t z b R h v xs):∃io c,v= .sl io 0 xs.length c:=by
 obtain⟨io,c,cs,e,_⟩:=hv
 exact⟨io,c,e⟩
theorem Live.isA {α:Type} {t:TypeId} {z b:Nat} {R:H→List AV→α→Prop} (hR:Grows R) {h:H} {v:AV} {xs:List α} (hv:Live t z b R h v xs):IsA z R h v xs:=by
 obtain⟨io,c,cs,e,h1,h2⟩:=hv
 exact⟨cs,h1.isC,h2.mono fun l x hx=>hR hx (H.del_le io)⟩
theorem Live.mono {α:Type} {t:TypeId} {z b:Nat} {R:H→List AV→α→Prop} (hR:Grows R) {h h':H} {v:AV} {xs:List α} (hv:Live t z b R h v xs) (hl:h.le h'):Live t z b R h' v xs:=by
 obtain⟨io,c,cs,e,h1,h2⟩:=hv
 exact⟨io,c,cs,e,h1.mono hl,h2.mono fun l x hx=>hR hx (H.del_mono hl io)⟩
theorem Live.app {α:Type} {t:TypeId} {z:Nat} {R:H→List AV→α→Prop} (hR:Grows R) {a h h2:H} {K:AV→H→Prop} {io:Option Nat} {co:Option Nat} {l:List AV} {ys:List α} {y:α} {bt n:Nat} (hz:0<z) (ha:a.wf) (hw:h.wf) (hah:a.le h)
  (hs:Live t z a.next R h (.sl io 0 n co) ys) (hn:n=ys.length) (hx:R (h.del io) l y) (hlz:l.length=z) (h1:l.all (·.one)=true) (hbt:bt≤64) (hl:n+1≤1099511627776)
  (hh:h2=h.new ⟨some t,z,l⟩) (hk:∀v h',h'.wf→a.le h'→Live t z a.next R h' v (ys++[y])→K v h'):appK t z bt (.sl io 0 n co) (.sl (some h.next) 0 1 (some 1)) h2 K:=by
 subst hh
 subst hn
 obtain⟨io',co',cs,e,hs,hc⟩:=hs
 injection e with e1 e2 e3 e4
 subst e1;subst e4
 have hbb:=Nat.mul_le_mul hl hbt
 have hw2:=H.wf_new hw ⟨some t,z,l⟩
 have hs2:=hs.mono (H.le_new hw (H.le_refl h) ⟨some t,z,l⟩)
 have hah2:=H.le_new hw hah ⟨some t,z,l⟩
 obtain⟨hcl,id',c',e,h3⟩:=hs2
 injection e with e1 e2 e3 e4
 subst e1;subst e4
 have hnx:(h.new ⟨some t,z,l⟩).next=h.next+1:=rfl
 simp only[appK]
 refine⟨fun h0=>by omega,fun _=>⟨h.next,_,rfl,H.rows_new _ _, ?_, ?_,by omega,by omega, ?_⟩⟩
 ·show 0+1*z≤l.length
  omega
 ·show((l.drop 0).take (1*z)).all (·.one)=true
  rw[List.drop_zero,Nat.one_mul,List.take_of_length_le (by omega)]
  exact h1
 have et:((⟨some t,z,l⟩:Row).cells.drop 0).take (1*z)=l:=by
  show(l.drop 0).take (1*z)=l
  rw[List.drop_zero,Nat.one_mul,List.take_of_length_le (by omega)]
 rw[et]
 have hlen1:(ys++[y]).length=ys.length+1:=by simp
 rcases h3 with⟨rfl,h0⟩|⟨i,q,rfl,hbi,hq,ho,he,hf2,ht2⟩
 ·have hy:ys=[]:=List.eq_nil_of_length_eq_zero h0
  subst hy
  have:cs=[]:=List.eq_nil_of_length_eq_zero (by simpa using hcl)
  subst this
  refine .inl ⟨rfl,rfl,hk _ _ (H.wf_new hw2 _) (H.le_new hw2 hah2 _) ⟨some (h.next+1),none,[]++l,rfl, ?_, ?_⟩⟩
  ·exact⟨by simp[hlz],some (h.next+1),none,rfl, .inr ⟨h.next+1,_,rfl,by have:=hah.1;omega,H.rows_new _ _,rfl,rfl,by simp[hlz],List.take_of_length_le (by simp[hlz])⟩⟩
  ·refine(hc.snoc hlz hx).mono fun l' x' hx'=>hR hx' ⟨by show h.next≤h.next+1+1;omega,fun j r hj=> ?_⟩
   have hj':=(H.del_le none).2 j r hj
   have hlt:=H.row_lt hw hj'
   simp only[H.del]
   rw[if_neg (by intro e;injection e;omega),H.rows_new_ne (by rw[hnx];omega),H.rows_new_ne (by omega)]
   exact hj'
 ·have hil:=H.row_lt hw2 hq
  have hi2:i≠h.next:=by
   intro e
   obtain⟨_,id2,c2,e2,h4⟩:=hs
   injection e2 with e2
   rcases h4 with⟨h4,_⟩|⟨i2,q2,h4,_,h5,_⟩
   ·rw[←e2] at h4;cases h4
   ·rw[←e2] at h4
    injection h4 with h4
    have:=H.row_lt hw h5
    omega
  refine .inr ⟨i,q,rfl,hq,ho,he,by simp,hf2,hk _ _ (H.wf_new (H.wf_del hw2 _) _) (H.le_new (H.wf_del hw2 _) (H.le_del ha hah2 hbi) _) ⟨some (h.next+1),none,cs++l,by rw[hlen1];rfl, ?_, ?_⟩⟩
  ·refine⟨by simp[hcl,hlz,Nat.add_mul],some (h.next+1),none,by rw[hlen1];rfl, .inr ⟨h.next+1,_,rfl,by have:=hah.1;omega,H.rows_new _ _,rfl,rfl, ?_, ?_⟩⟩
   ·rw[hlen1]
    simp only[List.length_append,ht2,hcl,hlz,Nat.add_mul];omega
   ·rw[hlen1,ht2]
    exact List.take_of_length_le (by simp[hcl,hlz,Nat.add_mul])
  ·refine(hc.snoc hlz hx).mono fun l' x' hx'=>hR hx' ⟨by show h.next≤h.next+1+1;omega,fun j r hj=> ?_⟩
   have hj':=(H.del_le (some i)).2 j r hj
   have hlt:=H.row_lt hw hj'
   have hji:j≠i:=by
    rintro rfl
    simp[H.del] at hj
   simp only[H.del]
   rw[if_neg (by intro e;injection e;omega)]
   show((H.del _ (some i)).new _).rows j=some r
   rw[H.rows_new_ne (by rw[H.next_del,hnx];omega),H.rows_del_ne hji,H.rows_new_ne (by omega)]
   exact hj'
section
variable {h:H} {u:AV}
theorem cell_slice {t e:TypeId} (ht:Tryz.prog.underlying t=some (.slice e)) {l:List AV} (r:Reads Tryz.prog h t l):∃v n cs,l=[v]∧IsC (Tryz.prog.cellsOf e) h v n cs∧n≤maxLen∧∀i,i<n→Reads Tryz.prog h e ((cs.drop (i*Tryz.prog.cellsOf e)).take (Tryz.prog.cellsOf e)):=by
 cases r with
 |int ht' hw=>rw[ht] at ht';cases ht'
 |bool ht'=>rw[ht] at ht';cases ht'
 |str ht'=>rw[ht] at ht';cases ht'
 |snil ht'=>exact⟨_,0,[],rfl,IsC.nil _ _ _,by simp,fun i hi=>by omega⟩
 |struct ht'=>rw[ht] at ht';cases ht'
 | @sl _ e' id len r ht' hr ho hlen hl hall=>
  rw[ht] at ht'
  injection ht' with e1
  injection e1 with e1
  subst e1
  refine⟨_,len,r.cells,rfl,⟨hl,some id,0,none,rfl, .inr ⟨id,r,rfl,hr, .inl ho,by omega, ?_⟩⟩,hlen,hall⟩
  rw[List.drop_zero,List.take_of_length_le (by omega)]
theorem all_of {α:Type} {z:Nat} {R:List AV→α→Prop}:∀{n:Nat} {cs:List AV},cs.length=n*z→(∀i,i<n→∃x,R ((cs.drop (i*z)).take z) x)→∃xs:List α,xs.length=n∧AllC z R cs xs
 |0,cs,hl,_=>⟨[],rfl,by
  have:cs=[]:=List.eq_nil_of_length_eq_zero (by simpa using hl)
  subst this
  exact AllC.nil _ _⟩
 |n+1,cs,hl,hx=>by
  have h0:n*z+z=cs.length:=by rw[hl,Nat.succ_mul]
  obtain⟨xs,h1,h2⟩:=all_of (z:=z) (n:=n) (cs:=cs.take (n*z)) (R:=R) (by rw[List.length_take];omega) (fun i hi=>by
   obtain⟨x,hr⟩:=hx i (by omega)
   have:=chunk_le (z:=z) hi
   refine⟨x, ?_⟩
   rw[List.drop_take,List.take_take,Nat.min_eq_left (by omega)]
   exact hr)
  obtain⟨x,hr⟩:=hx n (by omega)
  have h3:=h2.snoc (l:=(cs.drop (n*z)).take z) (x:=x) (by simp;omega) hr
  refine⟨xs++[x],by simp[h1], ?_⟩
  rw[List.take_of_length_le (l:=cs.drop (n*z)) (by simp;omega),List.take_append_drop] at h3
  exact h3
end
theorem Nf.del {b:Nat} {h:H} {v:AV} {x:Nat} {io:Option Nat} (hio:∀i,io=some i→i<b) (hv:Nf b h v x):Nf b (h.del io) v x:=by
 obtain⟨xs,⟨id,c,rfl,h1⟩,h2⟩:=hv
 refine⟨xs,⟨id,c,rfl, ?_⟩,h2⟩
 rcases h1 with h1|⟨i,r,rfl,hb,hr,h3⟩
 ·exact .inl h1
 ·refine .inr ⟨i,r,rfl,hb, ?_,h3⟩
  simp only[H.del]
  rw[if_neg (fun e=>by have:=hio i e.symm;omega)]
  exact hr
theorem Live.io_lt {α:Type} {t:TypeId} {z b n:Nat} {R:H→List AV→α→Prop} {h:H} {io c:Option Nat} {xs:List α} (hw:h.wf) (hv:Live t z b R h (.sl io 0 n c) xs):∀i,io=some i→i<h.next:=by
 obtain⟨io',c',cs,e,⟨_,id,c2,e2,h3⟩,_⟩:=hv
 injection e2 with e2
 subst e2
 rintro i rfl
 rcases h3 with⟨h3,_⟩|⟨i',q,h3,_,hq,_⟩
 ·cases h3
 ·injection h3 with h3
  subst h3
  exact H.row_lt hw hq
theorem Live.monoE {α:Type} {t:TypeId} {z b u:Nat} {R:H→List AV→α→Prop} (hR:∀{h h':H} {c:List AV} {x:α},R h c x→H.lee u h h'→R h' c x) {h h':H} {v:AV} {xs:List α} (hub:u<b) (hv:Live t z b R h v xs) (hl:H.lee u h h'):Live t z b R h' v xs:=by
 obtain⟨io,c,cs,e,h1,h2⟩:=hv
 refine⟨io,c,cs,e,h1.monoE hub hl,h2.mono fun l x hx=>hR hx ⟨hl.1,fun i r hi he=> ?_⟩⟩
 simp only[H.del] at he⊢
 split at he
 ·cases he
 ·rename_i hj;rw[if_neg hj];exact hl.2 i r hi he
theorem IsA.monoE {α:Type} {z u m nw dp:Nat} {tb:Tb} {R:H→List AV→α→Prop} {h h':H} (hR:∀{c:List AV} {x:α},R h c x→R h' c x) (ht:Tune h u m nw dp tb) (hz:z≠14) {v:AV} {xs:List α} (hv:IsA z R h v xs) (hl:H.lee u h h'):IsA z R h' v xs:=by
 obtain⟨cs,h1,h2⟩:=hv
 exact⟨cs,h1.monoE ht hz hl,h2.mono fun l x hx=>hR hx⟩
theorem lee_upto {u:Nat} {h h' h2:H} (hw:h.wf) (hl:H.lee u h h') (hu:(h'.upto h.next).le h2):H.lee u h h2:=
 ⟨hu.1,fun i r hi hr=>hu.2 i r (upto_row hw hl hi hr)⟩
theorem Tune.upto {u m nw dp:Nat} {tb:Tb} {h h' h2:H} (hu:u<h.next) (ht:Tune h' u m nw dp tb) (hl:(h'.upto h.next).le h2):Tune h2 u m nw dp tb:=by
 refine hl.2 _ _ ?_
 show(if u<h.next then h'.rows u else none)=_
 rw[if_pos hu]
 exact ht
end
theorem seq_cut {P:Program} {a b:AC} {Q:Post} {ρ:Env} {h:H} (M:Env→H→Prop) (h1:awp P a (onN M Q) ρ h) (h2:∀ρ h,M ρ h→awp P b Q ρ h):awp P (.seq a b) Q ρ h:=
 awp_cut (next:=awp P b Q) M h1 h2
theorem loop_cut2 {P:Program} {c:AC} {id id2:Nat} {next:Env→H→Prop} {Q:Post} {ρ:Env} {h:H} (M:Env→H→Prop) (h1:awp P (.loop c) (ablk id (ablk id2 (onN M Q))) ρ h) (h2:∀ρ h,M ρ h→next ρ h):awp P (.loop c) (ablk id (ablk id2 (athen next Q))) ρ h:=by
 have key:∀e ρ h,ablk id2 (onN M Q) e ρ h→ablk id2 (athen next Q) e ρ h:=by
  intro e ρ h hh
  cases e with
  |exit id'=>
   simp only[ablk] at hh⊢
   split
   ·rename_i hi;rw[if_pos hi] at hh;exact h2 _ _ hh
   ·rename_i hi;rw[if_neg hi] at hh;exact hh
  |normal=>exact h2 _ _ hh
  |_=>exact hh
 refine awp_mono (fun e ρ h hh=> ?_) h1
 cases e with
 |exit id'=>
  simp only[ablk] at hh⊢
  split
  ·rename_i hi;rw[if_pos hi] at hh;exact key .normal ρ h hh
  ·rename_i hi;rw[if_neg hi] at hh;exact key (.exit id') ρ h hh
 |normal=>exact key .normal ρ h hh
 |ret=>exact key .ret ρ h hh
 |goto l=>exact key (.goto l) ρ h hh
 |panic l=>exact key (.panic l) ρ h hh
 |outgrown=>exact key .outgrown ρ h hh
theorem trimA_calls {v:AV} {x:Nat} {a h:H} {K:AV→H→Prop} (hah:a.le h) (hv:Nn a v x) (hk:∀r xs,IsN a r xs→Dig xs→Top xs→val 18446744073709551616 xs=x→xs.length=wlen x→xs.length≤1099511627776→K r h):ACalls Tryz.prog 80 [v] h K:=by
 obtain⟨xs,h1,h2,h3,rfl⟩:=hv
 obtain⟨id,off,c,rfl⟩:=h1.form
 refine in_limb_trim (by simp) fun hw=> ?_
 unfold c_limb_trim
 simp only[go_sem]
 refine Len_calls (h1.mono hah) h2 (by omega) ?_
 have hl:=wlen_len h2
 have e:=top_cut h2
 simp only[go_sem]
 exact⟨by omega,by omega,(h1.mono hah).row,fun _=>hk _ _ (h1.take hl) (h2.take _) e.1 e.2 (by rw[List.length_take];omega) (by rw[List.length_take];omega)⟩
theorem LenN_calls {v:AV} {x:Nat} {h:H} {K:AV→H→Prop} (nv:Nn h v x) (hk:K (.int .i64 (wlen x:Nat)) h):ACalls Tryz.prog 62 [v] h K:=by
 obtain⟨xs,h1,h2,h3,rfl⟩:=nv
 exact Len_calls h1 h2 (by omega) hk
def NnL (h:H) (l:List AV) (x:Nat):Prop:=∃v,l=[v]∧Nn h v x
theorem parts_le {B k n:Nat} (hB:0<B):∀{xs:List Nat} (i0:Nat),(∀i (hi:i<xs.length),xs[i]≠0→xs[i]<B^(n-k*(i0+i))∧k*(i0+i)≤n)→(B^k)^i0*val (B^k) xs≤xs.length*B^n
 |[],i0,_=>by simp[val]
 |x::xs,i0,h=>by
  have ih:=parts_le (n:=n) hB (xs:=xs) (i0+1) (fun i hi h0=>by
   have:=h (i+1) (by simpa using hi) (by simpa using h0)
   rw[show i0+1+i=i0+(i+1) by omega]
   simpa using this)
  have h0:(B^k)^i0*x≤B^n:=by
   by_cases hx:x=0
   ·subst hx;simp
   ·obtain⟨h1,h2⟩:=h 0 (by simp) (by simpa using hx)
    simp only[List.getElem_cons_zero,Nat.add_zero] at h1 h2
    have e:B^n=(B^k)^i0*B^(n-k*i0):=by rw[←Nat.pow_mul,←Nat.pow_add];congr 1;omega
    rw[e]
    exact Nat.mul_le_mul_left _ (Nat.le_of_lt h1)
  rw[val,Nat.mul_add,List.length_cons,Nat.succ_mul]
  have e2:(B^k)^i0*(B^k*val (B^k) xs)=(B^k)^(i0+1)*val (B^k) xs:=by rw[Nat.pow_succ];ac_rfl
  rw[e2]
  omega
theorem parts_lt {k n:Nat} {xs:List Nat} (hl:xs.length<18446744073709551616) (h:∀i (hi:i<xs.length),xs[i]≠0→k*i+wlen xs[i]≤n):val (18446744073709551616^k) xs<18446744073709551616^(n+1):=by
 have:=parts_le (B:=18446744073709551616) (k:=k) (n:=n) (by omega) (xs:=xs) 0 (fun i hi h0=>by
  have h1:=h i hi h0
  rw[Nat.zero_add]
  exact⟨Nat.lt_of_lt_of_le (wlen_lt _) (Nat.pow_le_pow_right (by omega) (by omega)),by omega⟩)
 rw[Nat.pow_zero,Nat.one_mul] at this
 have h2:xs.length*18446744073709551616^n<18446744073709551616*18446744073709551616^n:=Nat.mul_lt_mul_of_pos_right hl (Nat.pow_pos (by omega))
 rw[Nat.pow_succ,Nat.mul_comm (18446744073709551616^n)]
 omega
theorem val_mono_take {B:Nat} {xs:List Nat} {i:Nat}:val B (xs.take i)≤val B xs:=by
 rcases Nat.le_total i xs.length with h|h
 ·rw[val_cut B xs i h];omega
 ·rw[List.take_of_length_le h];exact Nat.le_refl _
theorem join_step {V vt o v c d c2 B k a j os os2:Nat} (h1:os+B^k*c=V+B^a*vt) (h2:os2+B^k*o=os+B^k*d) (h3:d+B*c2=o+v+c) (hk:k=a+j):os2+B^(k+1)*c2=V+B^a*(vt+B^j*v):=by
 subst hk
 have e:=congrArg (fun z=>B^(a+j)*z) h3
 simp only[Nat.mul_add] at e
 have e1:B^(a+j)*(B*c2)=B^(a+j+1)*c2:=by rw[Nat.pow_succ];ac_rfl
 have e2:B^a*(B^j*v)=B^(a+j)*v:=by rw[Nat.pow_add];ac_rfl
 rw[Nat.mul_add,e2]
 omega
theorem Join_calls {v:AV} {k:Nat} {xs:List Nat} {h:H} {K:AV→H→Prop} (hk16:k≤16384) (hv:IsA 1 NnL h v xs) (hb:∀x∈xs,Big x) (hl:xs.length≤1000000)
  (hk:∀r h',h'.wf→h.le h'→Nf h.next h' r (val (18446744073709551616^k) xs)→K r h'):ACalls Tryz.prog 108 [.int .i64 (k:Int),v] h K:=by
 obtain⟨id,off,c,rfl⟩:=hv.form
 refine in_limb_Join (by simp) fun hw=> ?_
 unfold c_limb_Join
 simp only[go_sem]
 refine within_limb (by omega) ?_
 simp only[go_sem]
 have hwl:∀i (hi:i<xs.length),wlen xs[i]≤500000:=fun i hi=>by
  have:=wlen_big (hb _ (List.getElem_mem hi))
  rw[wordL_eq] at this
  exact this
 have hki:∀i,i<xs.length→k*i≤16384*1000000:=fun i hi=>Nat.mul_le_mul hk16 (by omega)
 refine loop_cut (fun ρ h'=>h'=h∧ρ 0= .int .i64 (k:Int)∧ρ 1= .sl id off xs.length c∧∃n:Nat,ρ 5= .int .i64 (n:Int)∧n≤20000000000∧∀i (hi:i<xs.length),xs[i]≠0→k*i+wlen xs[i]≤n) ?_ ?_
 ·refine for_rule (fun i ρ h'=>i≤xs.length∧h'=h∧ρ 0= .int .i64 (k:Int)∧ρ 1= .sl id off xs.length c∧ρ 17= .sl id off xs.length c∧ρ 18= .int .i64 (xs.length:Int)∧ρ 19= .int .i64 (i:Int)∧∃n:Nat,ρ 5= .int .i64 (n:Int)∧n≤20000000000∧∀j (hj:j<xs.length),j<i→xs[j]≠0→k*j+wlen xs[j]≤n) xs.length
   ⟨by omega,rfl,rfl,rfl,rfl,rfl,rfl,0,rfl,by omega,fun j _ hj=>by omega⟩ (fun i ρ h hI=>hI.1) ?_
  rintro i ρ h' ⟨hi,rfl,q0,q1,q17,q18,q19,n,q5,hn,hall⟩
  rcases Nat.lt_or_ge i xs.length with h1|h1
  ·obtain⟨ii,a,rfl,_,hg,a',e,ha⟩:=hv.at1 h1
   injection e with e
   subst e
   simp only[go_sem,q0,q1,q17,q18,q19,q5,ltT h1]
   refine⟨by omega,by omega, ?_⟩
   simp only[go_sem,hg]
   refine LenN_calls ha ?_
   have hw1:=hwl i h1
   have hk1:=hki i h1
   by_cases h0:xs[i]=0
   ·rw[h0,wlen_zero]
    have hd:decide ((0:Int)<((0:Nat):Int))=false:=by decide
    simp only[go_sem,hd,q0,q1,q17,q18,q19,q5,incI (i:=i) (by omega)]
    refine⟨by omega,by first|rfl|trivial|assumption,by first|rfl|trivial|assumption,by first|rfl|trivial|assumption,by first|rfl|trivial|assumption,by first|rfl|trivial|assumption,by first|rfl|trivial|assumption,n,by first|rfl|trivial|assumption,hn,fun j hj hji h2=> ?_⟩
    by_cases e:j=i
    ·subst e;exact absurd h0 h2
    ·exact hall j hj (by omega) h2
   ·have hp:0<wlen xs[i]:=by
     have:=mt wlen_eq_zero.1 h0;omega
    have hd:decide ((0:Int)<((wlen xs[i]:Nat):Int))=true:=decide_eq_true (by omega)
    have a1:=mulI (a:=k) (b:=i) (by omega)
    have a2:=addI (a:=k*i) (b:=wlen xs[i]) (by omega)
    simp only[go_sem,hd,q0,q1,q17,q18,q19,q5,a1,a2,maxN,incI (i:=i) (by omega)]
    refine⟨by omega,by first|rfl|trivial|assumption,by first|rfl|trivial|assumption,by first|rfl|trivial|assumption,by first|rfl|trivial|assumption,by first|rfl|trivial|assumption,by first|rfl|trivial|assumption,_,rfl,by omega,fun j hj hji h2=> ?_⟩
    by_cases e:j=i
    ·subst e;omega
    ·have:=hall j hj (by omega) h2
     omega
  ·simp only[go_sem,q0,q1,q17,q18,q19,q5,ltF h1]
   exact⟨trivial,trivial,trivial,n,rfl,hn,fun j hj h2=>hall j hj (by omega) h2⟩
 ·rintro ρ h' ⟨rfl,q0,q1,n,q5,hn,hall⟩
  have a1:IntKind.i64.wrap ((n:Int)+2)=((n+2:Nat):Int):=by rw[wI]<;>omega
  have hT:=parts_lt (by omega) hall
  simp only[go_sem,q0,q1,q5,a1]
  refine⟨by omega,by omega,by omega, ?_⟩
  have hl2:=H.le_new hw (H.le_refl h') ⟨some 73,1,zs [AV.int .u64 0] (n+2)⟩
  refine for_rule (fun i ρ h2=>i≤xs.length∧h2.wf∧h'.le h2∧ρ 0= .int .i64 (k:Int)∧ρ 9= .sl (some h'.next) 0 (n+2) (some (n+2))∧ρ 39= .sl id off xs.length c∧ρ 40= .int .i64 (xs.length:Int)∧ρ 41= .int .i64 (i:Int)∧∃os,IsG h'.next h2 (.sl (some h'.next) 0 (n+2) (some (n+2))) os∧Dig os∧os.length=n+2∧val 18446744073709551616 os=val (18446744073709551616^k) (xs.take i)) xs.length
   ⟨by omega,H.wf_new hw _,hl2,by first|rfl|trivial|assumption,by first|rfl|trivial|assumption,by first|rfl|trivial|assumption,by first|rfl|trivial|assumption,by first|rfl|trivial|assumption,_,IsG.made (Nat.le_refl _) _,Dig.zeros _,by simp,by rw[val_zero _ _ (fun x hx=>List.eq_of_mem_replicate hx)];simp[val]⟩ (fun i ρ h hI=>hI.1) ?_
  rintro i ρ h2 ⟨hi,hw2,hle,q0,q9,q39,q40,q41,os,hs,hod,hol,hov⟩
  rcases Nat.lt_or_ge i xs.length with h1|h1
  ·obtain⟨ii,a,rfl,_,hg0,a',e,ha⟩:=hv.at1 h1
   injection e with e
   subst e
   have hg:=H.get_le hle hg0
   simp only[go_sem,q0,q9,q39,q40,q41,ltT h1]
   refine⟨by omega,by omega, ?_⟩
   simp only[go_sem,hg]
   refine trimA_calls hle ha fun r ps hp hpd hpt hpv hpl _=> ?_
   have hw1:=hwl i h1
   have hk1:=hki i h1
   have hsum:=val_take_succ (18446744073709551616^k) xs i h1
   rw[←Nat.pow_mul] at hsum
   have hle1:val (18446744073709551616^k) (xs.take (i+1))≤val (18446744073709551616^k) xs:=val_mono_take
   have hin:xs[i]≠0→k*i+wlen xs[i]≤n:=hall i h1
   generalize hx:xs[i]=x at*
   obtain⟨idp,offp,cp,rfl⟩:=hp.form
   simp only[go_sem,q0,q9,q39,q40,q41]
   refine loop_cut2 (fun ρ h3=>h3.wf∧h'.le h3∧ρ 0= .int .i64 (k:Int)∧ρ 9= .sl (some h'.next) 0 (n+2) (some (n+2))∧ρ 39= .sl (some ii) off xs.length c∧ρ 40= .int .i64 (xs.length:Int)∧ρ 41= .int .i64 (i:Int)∧∃os,IsG h'.next h3 (.sl (some h'.next) 0 (n+2) (some (n+2))) os∧Dig os∧os.length=n+2∧val 18446744073709551616 os=val (18446744073709551616^k) (xs.take (i+1))) ?_ ?_
   ·refine for_rule (fun j ρ h3=>j≤n+2∧h3.wf∧h'.le h3∧ρ 0= .int .i64 (k:Int)∧ρ 9= .sl (some h'.next) 0 (n+2) (some (n+2))∧ρ 39= .sl (some ii) off xs.length c∧ρ 40= .int .i64 (xs.length:Int)∧ρ 41= .int .i64 (i:Int)∧ρ 10= .int .i64 (i:Int)∧ρ 11= .sl idp offp ps.length cp∧ρ 13= .int .i64 (j:Int)∧∃os cc,ρ 12= .int .u64 (cc:Nat)∧cc≤1∧IsG h'.next h3 (.sl (some h'.next) 0 (n+2) (some (n+2))) os∧Dig os∧os.length=n+2∧val 18446744073709551616 os+18446744073709551616^(k*i+j)*cc=val (18446744073709551616^k) (xs.take i)+18446744073709551616^(k*i)*val 18446744073709551616 (ps.take j)) (n+2)
     ⟨by omega,hw2,hle,by first|rfl|trivial|assumption,by first|rfl|trivial|assumption,by first|rfl|trivial|assumption,by first|rfl|trivial|assumption,by first|rfl|trivial|assumption,by first|rfl|trivial|assumption,by first|rfl|trivial|assumption,by first|rfl|trivial|assumption,os,0,by first|rfl|trivial|assumption,by omega,hs,hod,hol,by simp[val,hov]⟩ (fun i ρ h hI=>hI.1) ?_
    rintro j ρ h3 ⟨hj,hw3,hle3,q0,q9,q39,q40,q41,q10,q11,q13,os,cc,q12,hcc,hs,hod,hol,hov⟩
    have hpv2:val 18446744073709551616 (ps.take j)≤x:=by rw[←hpv];exact val_mono_take
    refine seq_cut (fun ρ h4=>h4=h3∧(j<ps.length∨0<cc)∧ρ 0= .int .i64 (k:Int)∧ρ 9= .sl (some h'.next) 0 (n+2) (some (n+2))∧ρ 39= .sl (some ii) off xs.length c∧ρ 40= .int .i64 (xs.length:Int)∧ρ 41= .int .i64 (i:Int)∧ρ 10= .int .i64 (i:Int)∧ρ 11= .sl idp offp ps.length cp∧ρ 13= .int .i64 (j:Int)∧ρ 12= .int .u64 (cc:Nat)) ?_ ?_
    ·rcases Nat.lt_or_ge j ps.length with h5|h5
     ·simp only[go_sem,q0,q9,q39,q40,q41,q10,q11,q13,q12,ltT h5]
      exact⟨trivial, .inl h5,trivial,trivial,trivial,trivial,trivial,trivial,trivial,trivial,trivial⟩
     ·by_cases h6:0<cc
      ·simp only[go_sem,q0,q9,q39,q40,q41,q10,q11,q13,q12,ltF h5,show decide ((0:Int)<(cc:Int))=true from decide_eq_true (by omega)]
       exact⟨trivial, .inr h6,trivial,trivial,trivial,trivial,trivial,trivial,trivial,trivial,trivial⟩
      ·have:cc=0:=by omega
       subst this
       simp only[go_sem,q0,q9,q39,q40,q41,q10,q11,q13,q12,ltF h5,show decide ((0:Int)<((0:Nat):Int))=false from rfl]
       refine⟨hw3,hle3,by first|rfl|trivial|assumption,by first|rfl|trivial|assumption,by first|rfl|trivial|assumption,by first|rfl|trivial|assumption,by first|rfl|trivial|assumption,os,hs,hod,hol, ?_⟩
       rw[Nat.mul_zero,Nat.add_zero,List.take_of_length_le h5,hpv] at hov
       rw[hov,hsum]
    rintro ρ h4 ⟨rfl,hgo,q0,q9,q39,q40,q41,q10,q11,q13,q12⟩
    --one more word
    have hkj:k*i+j≤n:=by
     rcases hgo with h5|h5
     ·have:x≠0:=by rintro rfl;rw[hpl,wlen_zero] at h5;omega
      have:=hin this
      omega
     ·rcases Nat.lt_or_ge n (k*i+j) with h6|h6
      ·exfalso
       have h7:18446744073709551616^(n+1)≤18446744073709551616^(k*i+j):=Nat.pow_le_pow_right (by omega) h6
       have h8:18446744073709551616^(k*i+j)*1≤18446744073709551616^(k*i+j)*cc:=Nat.mul_le_mul_left _ h5
       have h9:18446744073709551616^(k*i)*val 18446744073709551616 (ps.take j)≤18446744073709551616^(k*i)*x:=Nat.mul_le_mul_left _ hpv2
       omega
      ·exact h6
    have hkN:k*i+j<os.length:=by omega
    have hob:=hod _ (List.getElem_mem hkN)
    have hset:=fun d=>valset (B:=18446744073709551616) (d:=d) hkN
    obtain⟨jo,eo,_,hgo2⟩:=hs.isN.at hkN
    injection eo with eo
    subst eo
    obtain⟨i2,r2,e2,hb2,hlt2,hr2,ho2,hf2,hp2⟩:=hs.put hw3 hkN
    injection e2 with e2
    subst e2
    generalize os[k*i+j]=o at*
    rw[Nat.zero_add] at hgo2
    have hyb:=getD_lt (B:=18446744073709551616) (by omega) hpd j
    have hvy:=val_take_get 18446744073709551616 ps j
    have a1:=mulI (a:=k) (b:=i) (by omega)
    have a2:=addI (a:=k*i) (b:=j) (by omega)
    simp only[go_sem,q0,q9,q39,q40,q41,q10,q11,q13,q12]
    refine cond_cut (fun ρ h5=>h5=h4∧ρ 0= .int .i64 (k:Int)∧ρ 9= .sl (some h'.next) 0 (n+2) (some (n+2))∧ρ 39= .sl (some ii) off xs.length c∧ρ 40= .int .i64 (xs.length:Int)∧ρ 41= .int .i64 (i:Int)∧ρ 10= .int .i64 (i:Int)∧ρ 11= .sl idp offp ps.length cp∧ρ 13= .int .i64 (j:Int)∧ρ 12= .int .u64 (cc:Nat)∧ρ 14= .int .u64 ((ps.getD j 0:Nat):Int)) ?_ ?_
    ·rcases Nat.lt_or_ge j ps.length with hyi|hyi
     ·have hp':=hp.mono hle3
      obtain⟨j',rfl,_,hg'⟩:=hp'.at hyi
      rw[getD_at hyi]
      simp only[go_sem,q0,q9,q39,q40,q41,q10,q11,q13,q12,ltT hyi]
      refine⟨by omega,by omega, ?_⟩
      simp only[go_sem,hg',q0,q9,q39,q40,q41,q10,q11,q13,q12]
      exact⟨trivial,trivial,trivial,trivial,trivial,trivial,trivial,trivial,trivial,trivial,trivial⟩
     ·rw[getD_ge hyi]
      simp only[go_sem,q0,q9,q39,q40,q41,q10,q11,q13,q12,ltF hyi]
      exact⟨trivial,trivial,trivial,trivial,trivial,trivial,trivial,trivial,trivial,trivial,rfl⟩
    rintro ρ h5 ⟨rfl,q0,q9,q39,q40,q41,q10,q11,q13,q12,q14⟩
    generalize ps.getD j 0=v at*
    simp only[go_sem,q0,q9,q39,q40,q41,q10,q11,q13,q12,q14,a1,a2]
    refine⟨by omega,by omega, ?_⟩
    simp only[go_sem,hgo2,q12,q14]
    refine Add64_calls hob hyb hcc ?_
    simp only[go_sem,q9,a2]
    refine⟨by omega,by omega, ?_⟩
    simp only[go_sem,hr2]
    refine⟨ho2,by omega, ?_⟩
    simp only[go_sem,q0,q9,q39,q40,q41,q10,q11,q13,incI (i:=j) (by omega)]
    refine⟨by omega,H.wf_set hw3 hlt2 _,H.le_set hw hle3 hb2 _,by first|rfl|trivial|assumption,by first|rfl|trivial|assumption,by first|rfl|trivial|assumption,by first|rfl|trivial|assumption,by first|rfl|trivial|assumption,by first|rfl|trivial|assumption,by first|rfl|trivial|assumption,by first|rfl|trivial|assumption,_,_,rfl,by omega,hp2 ((o+v+cc)%18446744073709551616),hod.set _ (Nat.mod_lt _ (by omega)),by rw[List.length_set];exact hol, ?_⟩
    rw[hvy]
    exact join_step hov (hset _) (by omega) rfl
   ·rintro ρ h3 ⟨hw3,hle3,q0,q9,q39,q40,q41,os,hs,hod,hol,hov⟩
    simp only[go_sem,q0,q9,q39,q40,q41,incI (i:=i) (by omega)]
    exact⟨by omega,hw3,hle3,by first|rfl|trivial|assumption,by first|rfl|trivial|assumption,by first|rfl|trivial|assumption,by first|rfl|trivial|assumption,by first|rfl|trivial|assumption,os,hs,hod,hol,hov⟩
  ·have:i=xs.length:=by omega
   subst this
   rw[List.take_length] at hov
   simp only[go_sem,q0,q9,q39,q40,q41,ltF (Nat.le_refl xs.length)]
   refine trimG_calls hs hod (by omega) fun r hr=> ?_
   rw[hov] at hr
   simp only[go_sem]
   exact fun _=>hk r h2 hw2 hle hr
def am1 (s d:Nat):Nat:=if s<d then d-s else s-d
theorem toom_am {s d s' d':Nat}:((decide (s<d) !=decide (s'<d'))=false→am1 s d*am1 s' d'+(s*d'+d*s')=s*s'+d*d')∧
  ((decide (s<d) !=decide (s'<d'))=true→am1 s d*am1 s' d'+(s*s'+d*d')=s*d'+d*s'):=by
 unfold am1
 rcases Nat.lt_or_ge s d with h|h<;>rcases Nat.lt_or_ge s' d' with h'|h'
 ·obtain⟨u,rfl⟩:∃u,d=s+u:=⟨d-s,by omega⟩
  obtain⟨v,rfl⟩:∃v,d'=s'+v:=⟨d'-s',by omega⟩
  rw[if_pos h,if_pos h',decide_eq_true h,decide_eq_true h',Nat.add_sub_cancel_left,Nat.add_sub_cancel_left]
  exact⟨fun _=>by grind,fun e=>by cases e⟩
 ·obtain⟨u,rfl⟩:∃u,d=s+u:=⟨d-s,by omega⟩
  obtain⟨v,rfl⟩:∃v,s'=d'+v:=⟨s'-d',by omega⟩
  rw[if_pos h,if_neg (by omega),decide_eq_true h,decide_eq_false (by omega),Nat.add_sub_cancel_left,Nat.add_sub_cancel_left]
  exact⟨fun e=>(by cases e),fun _=>by grind⟩
 ·obtain⟨u,rfl⟩:∃u,s=d+u:=⟨s-d,by omega⟩
  obtain⟨v,rfl⟩:∃v,d'=s'+v:=⟨d'-s',by omega⟩
  rw[if_neg (by omega),if_pos h',decide_eq_false (by omega),decide_eq_true h',Nat.add_sub_cancel_left,Nat.add_sub_cancel_left]
  exact⟨fun e=>(by cases e),fun _=>by grind⟩
 ·obtain⟨u,rfl⟩:∃u,s=d+u:=⟨s-d,by omega⟩
  obtain⟨v,rfl⟩:∃v,s'=d'+v:=⟨s'-d',by omega⟩
  rw[if_neg (by omega),if_neg (by omega),decide_eq_false (by omega),decide_eq_false (by omega),Nat.add_sub_cancel_left,Nat.add_sub_cancel_left]
  exact⟨fun _=>by grind,fun e=>by cases e⟩
structure FiveV (c0 c1 c2 c3 c4 r0 r1 rm r2 ri:Nat) (neg:Bool):Prop where
 h0:r0=c0
 h1:r1=c0+c1+c2+c3+c4
 hm:neg=false→rm+(c1+c3)=c0+c2+c4
 hn:neg=true→rm+(c0+c2+c4)=c1+c3
 h2:r2=c0+2*c1+4*c2+8*c3+16*c4
 hi:ri=c4
theorem five_of {a0 a1 a2 b0 b1 b2:Nat}:FiveV (a0*b0) (a0*b1+a1*b0) (a0*b2+a1*b1+a2*b0) (a1*b2+a2*b1) (a2*b2)
  (a0*b0) ((a0+a1+a2)*(b0+b1+b2)) (am1 (a0+a2) a1*am1 (b0+b2) b1) ((a0+2*a1+4*a2)*(b0+2*b1+4*b2)) (a2*b2) (decide (a0+a2<a1) !=decide (b0+b2<b1)):=by
 have h:=toom_am (s:=a0+a2) (d:=a1) (s':=b0+b2) (d':=b1)
 refine⟨rfl,by grind,fun e=> ?_,fun e=> ?_,by grind,rfl⟩
 ·have h1:=h.1 e
  generalize am1 (a0+a2) a1*am1 (b0+b2) b1=r at*
  grind
 ·have h1:=h.2 e
  generalize am1 (a0+a2) a1*am1 (b0+b2) b1=r at*
  grind
theorem toom_val {X a0 a1 a2 b0 b1 b2:Nat}:(a0+X*a1+X*X*a2)*(b0+X*b1+X*X*b2)=
  a0*b0+X*(a0*b1+a1*b0)+X*X*(a0*b2+a1*b1+a2*b0)+X*X*X*(a1*b2+a2*b1)+X*X*X*X*(a2*b2):=by grind
theorem kara_mid {a0 a1 b0 b1:Nat}:(a0+a1)*(b0+b1)-(a0*b0+a1*b1)=a0*b1+a1*b0∧a0*b0+a1*b1≤(a0+a1)*(b0+b1):=by
 have e:(a0+a1)*(b0+b1)=a0*b1+a1*b0+(a0*b0+a1*b1):=by grind
 rw[e]
 omega
theorem kara_val {X a0 a1 b0 b1:Nat}:(a0+X*a1)*(b0+X*b1)=a0*b0+X*(a0*b1+a1*b0)+X*X*(a1*b1):=by grind
def Wn (h:H) (v:AV) (n x:Nat):Prop:=∃ys,IsN h v ys∧Dig ys∧ys.length=n∧val 18446744073709551616 ys=x
def Wf (b:Nat) (h:H) (v:AV) (n x:Nat):Prop:=∃ys,IsG b h v ys∧Dig ys∧ys.length=n∧val 18446744073709551616 ys=x
theorem Wf.wn {b n x:Nat} {h:H} {v:AV} (hv:Wf b h v n x):Wn h v n x:=by
 obtain⟨ys,h1,h2⟩:=hv
 exact⟨ys,h1.isN,h2⟩
theorem Wn.mono {n x:Nat} {h h':H} {v:AV} (hv:Wn h v n x) (hl:h.le h'):Wn h' v n x:=by
 obtain⟨ys,h1,h2⟩:=hv
 exact⟨ys,h1.mono hl,h2⟩
theorem Wn.monoE {u m nw dp n x:Nat} {t:Tb} {h h':H} {v:AV} (ht:Tune h u m nw dp t) (hv:Wn h v n x) (hl:H.lee u h h'):Wn h' v n x:=by
 obtain⟨ys,h1,h2⟩:=hv
 exact⟨ys,h1.monoE ht hl,h2⟩
theorem Wn.nn {n x:Nat} {h:H} {v:AV} (hv:Wn h v n x) (hn:n≤1099511627776):Nn h v x:=by
 obtain⟨ys,h1,h2,h3,h4⟩:=hv
 exact⟨ys,h1,h2,by omega,h4⟩
theorem Wn.lt {n x:Nat} {h:H} {v:AV} (hv:Wn h v n x):x<18446744073709551616^n:=by
 obtain⟨ys,h1,h2,rfl,rfl⟩:=hv
 exact val_lt 18446744073709551616 (by omega) ys h2
theorem Wn.form {n x:Nat} {h:H} {v:AV} (hv:Wn h v n x):∃id off c,v= .sl id off n c:=by
 obtain⟨ys,h1,_,rfl,_⟩:=hv
 exact h1.form
theorem lt_bigW {x k:Nat} (h:x<18446744073709551616^k) (hk:k≤400000):Big x:=lt_big64 h (by omega)
theorem piece_calls {v:AV} {xs:List Nat} {from_ n:Nat} {h:H} {K:AV→H→Prop} (hv:IsN h v xs) (hd:Dig xs) (hf:from_≤1099511627776) (hn:n≤1099511627776)
  (hk:∀r h',h'.wf→h.le h'→Wf h.next h' r n (val 18446744073709551616 ((xs.drop from_).take n))→K r h'):ACalls Tryz.prog 127 [v, .int .i64 (from_:Int), .int .i64 (n:Int)] h K:=by
 obtain⟨id,off,c,rfl⟩:=hv.form
 refine in_kara_piece (by simp) fun hw=> ?_
 unfold c_kara_piece
 simp only[go_sem]
 refine⟨by omega,by omega,by omega, ?_⟩
 have hl1:=H.le_new hw (H.le_refl h) ⟨some 73,1,zs [AV.int .u64 0] n⟩
 have hw1:=H.wf_new hw ⟨some 73,1,zs [AV.int .u64 0] n⟩
 have hG:=IsG.made (b:=h.next) (h:=h) (Nat.le_refl _) n
 refine cond_cut (fun ρ h'=>h'.wf∧h.le h'∧Wf h.next h' (ρ 7) n (val 18446744073709551616 ((xs.drop from_).take n))) ?_ ?_
 ·rcases Nat.lt_or_ge from_ xs.length with h1|h1
  ·have a1:=addI (a:=from_) (b:=n) (by omega)
   simp only[go_sem,ltT h1,a1,minN]
   refine⟨by omega,by omega,by omega, .inl (by omega),(hv.mono hl1).row, ?_⟩
   have hcut:=(hv.mono hl1).cut (c':=c.map (· -from_)) (a:=from_) (b:=min xs.length (from_+n)) (by omega) (by omega)
   have e:(xs.take (min xs.length (from_+n))).drop from_=(xs.drop from_).take n:=by
    apply List.ext_getElem?
    intro j
    rw[List.getElem?_drop,List.getElem?_take,List.getElem?_take,List.getElem?_drop]
    by_cases h2:j<n
    ·rw[if_pos h2]
     by_cases h3:from_+j<xs.length
     ·rw[if_pos (by omega)]
     ·rw[if_neg (by omega),List.getElem?_eq_none (by omega)]
    ·rw[if_neg h2,if_neg (by omega)]
   rw[e] at hcut
   refine cpy_num (b:=h.next) hw1 hG hcut (by simp;omega) fun h2 hw2 hn2 hle2 hs2=> ?_
   simp only[go_sem]
   refine⟨hw2,hle2 h hw hl1 (Nat.le_refl _),_,hs2,((hd.drop _).take _).append ((Dig.zeros n).drop _),by simp;omega, ?_⟩
   rw[List.drop_replicate,val_zeros]
  ·simp only[go_sem,ltF h1]
   refine⟨hw1,hl1,_,hG,Dig.zeros _,by simp, ?_⟩
   rw[List.drop_of_length_le h1,List.take_nil,val_zero _ _ (fun x hx=>List.eq_of_mem_replicate hx)]
   rfl
 ·rintro ρ h' ⟨hw',hle,hr⟩
  simp only[go_sem]
  exact fun _=>hk _ _ hw' hle hr
theorem wide_calls {b:Nat} {v:AV} {n x:Nat} {h:H} {K:AV→H→Prop} (hv:Nf b h v x) (hx:x<18446744073709551616^n) (hn:n≤400000)
  (hk:∀r h',h'.wf→h.le h'→Wf h.next h' r n x→K r h'):ACalls Tryz.prog 128 [v, .int .i64 (n:Int)] h K:=by
 obtain⟨xs,h1,h2,h3,rfl⟩:=hv
 have hl:xs.length≤n:=by rw[top_len h2 h3];exact wlen_le.2 hx
 refine in_kara_wide (by simp) fun hw=> ?_
 unfold c_kara_wide
 simp only[go_sem]
 refine piece_calls (from_:=0) h1.isN h2 (by omega) (by omega) fun r h' hw' hl' hr=> ?_
 rw[List.drop_zero,List.take_of_length_le hl] at hr
 simp only[go_sem]
 exact fun _=>hk r h' hw' hl' hr
def InOK (f:FuncId) (first caps:List AV) (h0:H) (u:Nat) (t:Tb) (N top:Nat) (C L:Nat→Nat→Nat):Prop:=
 ∀(h1:H) (m0 nw dp n m x y:Nat) (va vb:AV) (K:AV→H→Prop),H.lee u h0 h1→Tune h1 u m0 nw dp t→Wn h1 va n x→Wn h1 vb m y→n≤N→m≤N→nw+L n m≤top→
  (∀r h' m' dp',h'.wf→H.lee u h1 h'→Tune h' u m' nw dp' t→Sp m0 dp m' dp' nw (C n m) (L n m)→Nf h1.next h' r (x*y)→K r h')→ACalls Tryz.prog f (first++[va,vb]++caps) h1 K
theorem lit3 {z a b c:AV} (ha:a.one=true) (hb:b.one=true) (hc:c.one=true):abuild (zs [z] 3) [(0,1,a),(1,1,b),(2,1,c)]=some [a,b,c]:=by
 have h1:∀{v:AV},v.one=true→v.held=true∧v.cells=[v]:=by
  intro v hv
  cases v<;>first|exact⟨rfl,rfl⟩|simp[AV.one] at hv
 simp[abuild,zs,(h1 ha).1,(h1 ha).2,(h1 hb).1,(h1 hb).2,(h1 hc).1,(h1 hc).2,putAt]
theorem Nf.one {b x:Nat} {h:H} {v:AV} (hv:Nf b h v x):v.one=true:=by
 obtain⟨xs,h1,_⟩:=hv
 obtain⟨id,c,rfl⟩:=h1.form
 rfl
theorem nnl_lit {h:H} {t:TypeId} {l:List AV} {xs:List Nat} {n:Nat} (hn:n=l.length) (hl:l.length=xs.length) (h1:∀(j:Nat) (a:AV) (x:Nat),l[j]? =some a→xs[j]? =some x→Nn (h.new ⟨some t,1,l⟩) a x):IsA 1 NnL (h.new ⟨some t,1,l⟩) (.sl (some h.next) 0 n (some n)) xs:=by
 subst hn
 have:=IsCF.lit (t:=t) (z:=1) (b:=0) (h:=h) (Nat.zero_le _) (l:=l) (n:=l.length) (by simp)
 refine⟨l,by rw[←hl];exact this.isC,by omega,fun j x hx=> ?_⟩
 have hj:j<l.length:=by rw[hl];exact(List.getElem?_eq_some_iff.1 hx).1
 rw[Nat.mul_one,take_one hj]
 exact⟨_,rfl,h1 j _ x (List.getElem?_eq_getElem hj) hx⟩
theorem Eng.open {d e u m nw dp:Nat} {t:Tb} {h:H} (ht:Tune h u m nw dp t) (he:Eng (d+1) h e u):∃e',Eng d h e' u∧∀h',H.lee u h h'→h'.get e 0=some (.ptr (some (e',0))):=by
 have he0:=he
 obtain⟨r,e',h1,h2,h3⟩:=he
 refine⟨e',h3,fun h' hl=> ?_⟩
 obtain⟨r',e2,k1,k2,_⟩:=Eng.monoE ht hl he0
 have hne:e≠u:=by
  rintro rfl
  rw[ht] at h1
  injection h1 with h1
  rw[←h1] at h2
  have:=congrArg List.length h2
  simp[tuneRow,Tb.cells] at this
 rw[H.get_of (hl.2 e r hne h1),h2]
 rfl
theorem Kara_calls {e u m0 nw dp a b x y N top:Nat} {t:Tb} {va vb:AV} {f:FuncId} {first caps:List AV} {C L:Nat→Nat→Nat} {h:H} {K:AV→H→Prop} (he:Eng 2 h e u) (ht:Tune h u m0 nw dp t) (nv:Wn h va a x) (nu:Wn h vb b y) (hlen:(max a b+1)/2<min a b) (ha:a≤16384) (hb:b≤16384)
  (hin:InOK f first caps h u t N top C L) (hN:(max a b+1)/2+1≤N) (D:Nat) (hD1:L ((max a b+1)/2) ((max a b+1)/2)≤D) (hD2:L (max a b-(max a b+1)/2) (min a b-(max a b+1)/2)≤D) (hD3:L ((max a b+1)/2+1) ((max a b+1)/2+1)≤D) (htop:nw+1+D≤top) (hnw:nw≤1000000000)
  (hk:∀r h' m' dp',h'.wf→H.lee u h h'→Tune h' u m' nw dp' t→Sp m0 dp m' dp' nw (C ((max a b+1)/2) ((max a b+1)/2)+C (max a b-(max a b+1)/2) (min a b-(max a b+1)/2)+C ((max a b+1)/2+1) ((max a b+1)/2+1)) (D+1)→Nf h.next h' r (x*y)→K (.tup [r, .bool true]) h'):
  ACalls Tryz.prog 114 [.ptr (some (e,0)),va,vb, .fn f first caps] h K:=by
 refine in_kara_Engine_Kara (by simp) fun hw=> ?_
 unfold c_kara_Engine_Kara
 obtain⟨ida,offa,ca,rfl⟩:=nv.form
 obtain⟨idb,offb,cb,rfl⟩:=nu.form
 simp only[go_sem]
 refine cond_cut (fun ρ' h2=>h2=h∧ρ' 0= .ptr (some (e,0))∧ρ' 3= .fn f first caps∧∃v1 v2 x1 y1,ρ' 1=v1∧ρ' 2=v2∧Wn h v1 (max a b) x1∧Wn h v2 (min a b) y1∧x1*y1=x*y) ?_ ?_
 ·rcases Nat.lt_or_ge a b with h1|h1
  ·simp only[go_sem,ltT h1]
   refine⟨trivial,trivial,trivial,_,_,y,x,rfl,rfl, ?_, ?_,Nat.mul_comm _ _⟩
   ·rw[Nat.max_eq_right (by omega)];exact nu
   ·rw[Nat.min_eq_left (by omega)];exact nv
  ·simp only[go_sem,ltF h1]
   refine⟨trivial,trivial,trivial,_,_,x,y,rfl,rfl, ?_, ?_,rfl⟩
   ·rw[Nat.max_eq_left (by omega)];exact nv
   ·rw[Nat.min_eq_right (by omega)];exact nu
 rintro ρ h0 ⟨rfl,q0,q3,v1,v2,x1,y1,q1,q2,nv,nu,hxy⟩
 rw[←hxy] at hk
 have hmn:min a b≤max a b:=by omega
 have hmx:max a b≤16384:=by omega
 clear hxy
 generalize max a b=n at*
 generalize min a b=m at*
 obtain⟨η,hH⟩:∃η,η=(n+1)/2:=⟨_,rfl⟩
 rw[←hH] at hlen hN hD1 hD2 hD3 hk
 obtain⟨xs,hv,hxd,hxl,hxv⟩:=nv
 obtain⟨ys,hu,hyd,hyl,hyv⟩:=nu
 obtain⟨ida,offa,ca,rfl⟩:=hv.form
 obtain⟨idb,offb,cb,rfl⟩:=hu.form
 obtain⟨e1,he1,G1⟩:=he.open ht
 obtain⟨e2,he2,G2⟩:=he1.open ht
 obtain rfl:e2=u:=he2
 have g1:=G1 h0 (H.lee_refl _ _)
 have g2:=G2 h0 (H.lee_refl _ _)
 have a1:IntKind.i64.wrap ((n:Int)+1)=((n+1:Nat):Int):=incI (by omega)
 have a2:IntKind.i64.wrap (((n+1:Nat):Int).tdiv 2)=(η:Int):=by
  have e:((n+1:Nat):Int).tdiv 2=(((n+1)/2:Nat):Int):=tdivN (a:=n+1) (b:=2)
  rw[e,←hH,wI]<;>omega
 have a3:decide ((m:Int)≤(η:Int))=false:=leF (by omega)
 have a4:=subI (a:=n) (b:=η) (by omega) (by omega)
 have a5:=subI (a:=m) (b:=η) (by omega) (by omega)
 have a6:=incI (i:=η) (by omega)
 simp only[go_sem,q0,q1,q2,q3,hxl,hyl,a1,a2,a3,g1,g2]
 refine⟨by omega, ?_⟩
 refine Enter_calls ht (by omega) fun _ h1 hw1 hl1 hn1 ht1=> ?_
 have hv1:=hv.monoE ht hl1
 have hu1:=hu.monoE ht hl1
 simp only[go_sem,q0,q1,q2,q3,a4]
 refine piece_calls (from_:=0) hv1 hxd (by omega) (by omega) fun A0 h2 hw2 hl2 pA0=> ?_
 simp only[go_sem,q0,q1,q2,q3,a4,a5,a6]
 refine piece_calls (from_:=η) (hv1.mono hl2) hxd (by omega) (by omega) fun A1 h3 hw3 hl3 pA1=> ?_
 simp only[go_sem,q0,q1,q2,q3,a4,a5,a6]
 refine piece_calls (from_:=0) (hu1.mono (H.le_trans hl2 hl3)) hyd (by omega) (by omega) fun B0 h4 hw4 hl4 pB0=> ?_
 simp only[go_sem,q0,q1,q2,q3,a4,a5,a6]
 refine piece_calls (from_:=η) (hu1.mono (H.le_trans hl2 (H.le_trans hl3 hl4))) hyd (by omega) (by omega) fun B1 h5 hw5 hl5 pB1=> ?_
 have ex:x1=val 18446744073709551616 ((xs.drop 0).take η)+18446744073709551616^η*val 18446744073709551616 ((xs.drop η).take (n-η)):=by
  rw[←hxv,List.drop_zero,List.take_of_length_le (l:=xs.drop η) (by simp;omega)]
  exact val_cut 18446744073709551616 xs η (by omega)
 have ey:y1=val 18446744073709551616 ((ys.drop 0).take η)+18446744073709551616^η*val 18446744073709551616 ((ys.drop η).take (m-η)):=by
  rw[←hyv,List.drop_zero,List.take_of_length_le (l:=ys.drop η) (by simp;omega)]
  exact val_cut 18446744073709551616 ys η (by omega)
 have sA0:=pA0.wn.mono (H.le_trans hl3 (H.le_trans hl4 hl5))
 have sA1:=pA1.wn.mono (H.le_trans hl4 hl5)
 have sB0:=pB0.wn.mono hl5
 have sB1:=pB1.wn
 generalize val 18446744073709551616 ((xs.drop 0).take η)=α0 at*
 generalize val 18446744073709551616 ((xs.drop η).take (n-η))=α1 at*
 generalize val 18446744073709551616 ((ys.drop 0).take η)=β0 at*
 generalize val 18446744073709551616 ((ys.drop η).take (m-η))=β1 at*
 have lα0:=sA0.lt
 have lα1:=sA1.lt
 have lβ0:=sB0.lt
 have lβ1:=sB1.lt
 have pH:18446744073709551616^(n-η)≤18446744073709551616^η:=Nat.pow_le_pow_right (by omega) (by omega)
 have pH2:18446744073709551616^(m-η)≤18446744073709551616^η:=Nat.pow_le_pow_right (by omega) (by omega)
 have pH3:18446744073709551616^(η+1)=18446744073709551616^η*18446744073709551616:=Nat.pow_succ ..
 simp only[go_sem,q0,q1,q2,q3,a4,a5,a6]
 refine lAdd_calls (sA0.nn (by omega)) (sA1.nn (by omega)) fun S h6 hw6 hl6 nS=> ?_
 simp only[go_sem,q0,q1,q2,q3,a4,a5,a6]
 refine wide_calls (n:=η+1) nS (by omega) (by omega) fun SA h7 hw7 hl7 pSA=> ?_
 simp only[go_sem,q0,q1,q2,q3,a4,a5,a6]
 refine lAdd_calls ((sB0.mono (H.le_trans hl6 hl7)).nn (by omega)) ((sB1.mono (H.le_trans hl6 hl7)).nn (by omega)) fun S2 h8 hw8 hl8 nS2=> ?_
 simp only[go_sem,q0,q1,q2,q3,a4,a5,a6]
 refine wide_calls (n:=η+1) nS2 (by omega) (by omega) fun SB h9 hw9 hl9 pSB=> ?_
 have l19:=(H.le_trans hl2 (H.le_trans hl3 (H.le_trans hl4 (H.le_trans hl5 (H.le_trans hl6 (H.le_trans hl7 (H.le_trans hl8 hl9)))))))
 have l09:H.lee e2 h0 h9:=hl1.trans l19.lee
 have ht9:=ht1.mono l19
 have sA0:=sA0.mono (H.le_trans hl6 (H.le_trans hl7 (H.le_trans hl8 hl9)))
 have sA1:=sA1.mono (H.le_trans hl6 (H.le_trans hl7 (H.le_trans hl8 hl9)))
 have sB0:=sB0.mono (H.le_trans hl6 (H.le_trans hl7 (H.le_trans hl8 hl9)))
 have sB1:=sB1.mono (H.le_trans hl6 (H.le_trans hl7 (H.le_trans hl8 hl9)))
 have sSA:=pSA.wn.mono (H.le_trans hl8 hl9)
 have sSB:=pSB.wn
 have hul:=H.row_lt hw ht
 simp only[go_sem,q0,q1,q2,q3,a4,a5,a6]
 refine hin h9 _ _ _ _ _ _ _ _ _ _ l09 ht9 sA0 sB0 (by omega) (by omega) (by omega) fun low h10 m1 d1 hw10 hl10 ht10 sp1 nlow=> ?_
 simp only[go_sem,q0,q1,q2,q3,a4,a5,a6]
 refine hin h10 _ _ _ _ _ _ _ _ _ _ (l09.trans hl10) ht10 (sA1.monoE ht9 hl10) (sB1.monoE ht9 hl10) (by omega) (by omega) (by omega) fun high h11 m2 d2 hw11 hl11 ht11 sp2 nhigh=> ?_
 simp only[go_sem,q0,q1,q2,q3,a4,a5,a6]
 have l911:=hl10.trans hl11
 refine hin h11 _ _ _ _ _ _ _ _ _ _ (l09.trans l911) ht11 (sSA.monoE ht9 l911) (sSB.monoE ht9 l911) (by omega) (by omega) (by omega) fun both h12 m3 d3 hw12 hl12 ht12 sp3 nboth=> ?_
 have l012:=(l09.trans l911).trans hl12
 simp only[go_sem,q0,G1 _ l012,G2 _ l012]
 refine Leave_calls ht12 (by omega) fun _ h13 hw13 hl13 hn13 ht13=> ?_
 have l1013:=(hl11.trans hl12).trans hl13
 have nlow13:=nlow.monoE (u:=e2) (by have:=l09.1;omega) l1013
 have nhigh13:=nhigh.monoE (u:=e2) (by have:=(l09.trans hl10).1;omega) (hl12.trans hl13)
 have nboth13:=nboth.monoE (u:=e2) (by have:=(l09.trans l911).1;omega) hl13
 have plow:α0*β0<18446744073709551616^η*18446744073709551616^η:=Nat.mul_lt_mul_of_lt_of_le lα0 (Nat.le_of_lt lβ0) (Nat.pow_pos (by omega))
 have phigh:α1*β1<18446744073709551616^η*18446744073709551616^η:=Nat.mul_lt_mul_of_lt_of_le (by omega) (by omega) (Nat.pow_pos (by omega))
 have pboth:(α0+α1)*(β0+β1)<18446744073709551616^(η+1)*18446744073709551616^(η+1):=Nat.mul_lt_mul_of_lt_of_le (by omega) (by omega) (Nat.pow_pos (by omega))
 rw[←Nat.pow_add] at plow phigh pboth
 have bl:Big (α0*β0):=lt_bigW plow (by omega)
 have bh:Big (α1*β1):=lt_bigW phigh (by omega)
 have bb:Big ((α0+α1)*(β0+β1)):=lt_bigW pboth (by omega)
 obtain⟨km1,km2⟩:=kara_mid (a0:=α0) (a1:=α1) (b0:=β0) (b1:=β1)
 simp only[go_sem]
 refine lAdd_calls (nlow13.nn bl) (nhigh13.nn bh) fun s h14 hw14 hl14 ns=> ?_
 simp only[go_sem]
 refine lSub_calls ((nboth13.mono hl14).nn bb) (ns.nn (bb.le km2)) (fun hc=>by omega) fun _ mid h15 hw15 hl15 nmid=> ?_
 rw[km1] at nmid
 have l15:=(H.le_trans hl14 hl15)
 have s1:=(nlow13.mono l15)
 have s3:=(nhigh13.mono l15)
 simp only[go_sem,lit3 s1.one nmid.one s3.one]
 have hl16:=H.le_new hw15 (H.le_refl h15) ⟨some 37,1,[low,mid,high]⟩
 have bm:Big (α0*β1+α1*β0):=bb.le (by rw[←km1];omega)
 refine Join_calls (xs:=[α0*β0,α0*β1+α1*β0,α1*β1]) (by omega) (nnl_lit rfl rfl ?_) (fun z hz=> ?_) (by simp) fun r h17 hw17 hl17 nr=> ?_
 ·intro j c z h1 h2
  match j with
  |0=>simp at h1 h2;subst h1;subst h2;exact(s1.mono hl16).nn bl
  |1=>simp at h1 h2;subst h1;subst h2;exact(nmid.mono hl16).nn bm
  |2=>simp at h1 h2;subst h1;subst h2;exact(s3.mono hl16).nn bh
  |j+3=>simp at h1
 ·simp at hz
  rcases hz with rfl|rfl|rfl
  ·exact bl
  ·exact bm
  ·exact bh
 ·have ev:val (18446744073709551616^η) [α0*β0,α0*β1+α1*β0,α1*β1]=x1*y1:=by
   rw[ex,ey,kara_val]
   simp only[val]
   generalize 18446744073709551616^η=X
   grind
  rw[ev] at nr
  have l1317:=(H.le_trans hl14 (H.le_trans hl15 (H.le_trans hl16 hl17)))
  simp only[go_sem]
  exact fun _=>hk r h17 _ _ hw17 (l012.trans (hl13.trans l1317.lee)) (ht13.mono l1317) (((sp1.trans sp2).trans sp3).le (Nat.le_refl _) (by omega)).deep (nr.base (by have:=l012.1;have:=hl13.1;have:=hl14.1;have:=hl15.1;have:=hl16.1;omega))
theorem Nf.setlt {b k x:Nat} {h:H} {v:AV} {r:Row} (hk:k<b) (hv:Nf b h v x):Nf b (h.set k r) v x:=by
 obtain⟨xs,⟨id,c,rfl,h1⟩,h2⟩:=hv
 refine⟨xs,⟨id,c,rfl, ?_⟩,h2⟩
 rcases h1 with h1|⟨i,q,rfl,hb,hq,h3⟩
 ·exact .inl h1
 ·exact .inr ⟨i,q,rfl,hb,by rw[H.rows_set_ne (by omega)];exact hq,h3⟩
theorem H.set_self {h:H} {p:Nat} {r:Row} (hr:h.rows p=some r):h.set p r=h:=by
 cases h with
 |mk rows next=>
  simp only[H.set,H.mk.injEq,and_true]
  funext i
  split
  ·rename_i e;subst e;exact hr.symm
  ·rfl
theorem pow_mod3 (n:Nat):18446744073709551616^n%3=1:=by
 induction n with
 |zero=>rfl
 |succ n ih=>rw[Nat.pow_succ,Nat.mul_mod,ih]
theorem third_word {w c:Nat} (hw:w<18446744073709551616) (hc:c≤2):
  (((w+18446744073709551616-c-0)%18446744073709551616)*12297829382473034411%18446744073709551616)*3+c=w+18446744073709551616*((((w+18446744073709551616-c-0)%18446744073709551616)*12297829382473034411%18446744073709551616)*3/18446744073709551616+(if w<c+0 then 1 else 0)):=by
 split<;>omega
theorem third_step {Q V cc q w c2 B P:Nat} (h:3*Q=V+P*cc) (e:q*3+cc=w+B*c2):3*(Q+P*q)=V+P*w+P*B*c2:=by
 have e1:=congrArg (fun z=>P*z) e
 simp only[Nat.mul_add] at e1
 have e2:P*(B*c2)=P*B*c2:=by ac_rfl
 have e3:P*(q*3)=3*(P*q):=by ac_rfl
 omega
theorem third_cc {Q V cc P:Nat} (h:3*Q=V+P*cc) (hQ:Q<P):cc≤2:=by
 rcases Nat.lt_or_ge 2 cc with h1|h1
 ·have:P*3≤P*cc:=Nat.mul_le_mul_left _ h1
  omega
 ·exact h1
theorem Third_calls {v:AV} {c:Nat} {h:H} {K:AV→H→Prop} (nv:Nn h v (3*c)) (hb:Big (3*c))
  (hk:∀r h',h'.wf→h.le h'→Nf h.next h' r c→K (.tup [r, .bool true]) h'):ACalls Tryz.prog 148 [v] h K:=by
 refine in_toom_Third (by simp) fun hw=> ?_
 unfold c_toom_Third
 simp only[go_sem]
 refine Norm_calls nv fun a h1 hw1 hl1 ⟨xs,hG,hxd,hxt,hxv⟩=> ?_
 obtain⟨ia,ca,rfl⟩:=hG.form
 have hxl:xs.length≤500000:=by
  have:=wlen_big hb
  rw[wordL_eq,←hxv,←top_len hxd hxt] at this
  exact this
 simp only[go_sem]
 refine loop_cut (fun ρ h'=>h'.wf∧h.le h'∧ρ 0= .sl ia 0 xs.length ca∧∃qs cc,ρ 4= .int .u64 (cc:Nat)∧IsG h.next h' (.sl ia 0 xs.length ca) qs∧Dig qs∧qs.length=xs.length∧3*val 18446744073709551616 qs=val 18446744073709551616 xs+18446744073709551616^xs.length*cc) ?_ ?_
 ·refine for_rule (fun i ρ h'=>i≤xs.length∧h'.wf∧h.le h'∧ρ 0= .sl ia 0 xs.length ca∧ρ 14= .sl ia 0 xs.length ca∧ρ 15= .int .i64 (xs.length:Int)∧ρ 16= .int .i64 (i:Int)∧∃qs cc,ρ 4= .int .u64 (cc:Nat)∧IsG h.next h' (.sl ia 0 xs.length ca) (qs++xs.drop i)∧Dig qs∧qs.length=i∧3*val 18446744073709551616 qs=val 18446744073709551616 (xs.take i)+18446744073709551616^i*cc) xs.length
   ⟨by omega,hw1,hl1,by first|rfl|trivial|assumption,by first|rfl|trivial|assumption,by first|rfl|trivial|assumption,by first|rfl|trivial|assumption,[],0,by first|rfl|trivial|assumption,by rw[List.nil_append,List.drop_zero];exact hG,Dig.nil,rfl,by simp[val]⟩ (fun i ρ h hI=>hI.1) ?_
  rintro i ρ h' ⟨hi,hw',hle,q0,q14,q15,q16,qs,cc,q4,hs,hqd,hql,hqv⟩
  have hcc:=third_cc hqv (by rw[←hql];exact val_lt 18446744073709551616 (by omega) qs hqd)
  rcases Nat.lt_or_ge i xs.length with h1|h1
  ·have hxb:=hxd _ (List.getElem_mem h1)
   have hvx:=val_take_succ 18446744073709551616 xs i h1
   subst hql
   obtain⟨j,r2,rfl,hb2,hlt2,hr2,ho2,hf2,hgo,_,hp2⟩:=hs.over hw' h1
   generalize xs[qs.length]=w at*
   simp only[go_sem,q0,q14,q15,q16,q4,ltT h1]
   refine⟨by omega,by omega, ?_⟩
   simp only[go_sem,Nat.zero_add,Nat.mul_one,Int.toNat_natCast,hgo,q4]
   refine Sub64_calls (c:=0) (by omega) ?_
   have e:=third_word (w:=w) (c:=cc) hxb hcc
   have e0:((12297829382473034411:Int))=((12297829382473034411:Nat):Int):=rfl
   have em:IntKind.u64.wrap ((((w+18446744073709551616-cc-0)%18446744073709551616:Nat):Int)*12297829382473034411)=(((w+18446744073709551616-cc-0)%18446744073709551616*12297829382473034411%18446744073709551616:Nat):Int):=by rw[wUm,e0];omega
   have hq:(w+18446744073709551616-cc-0)%18446744073709551616*12297829382473034411%18446744073709551616<18446744073709551616:=Nat.mod_lt _ (by omega)
   have hd:(if w<cc+0 then 1 else 0)≤1:=by split<;>omega
   simp only[go_sem,em]
   generalize (w+18446744073709551616-cc-0)%18446744073709551616*12297829382473034411%18446744073709551616=q at*
   generalize (if w<cc+0 then 1 else 0)=d at*
   have ea:IntKind.u64.wrap (((q*3/18446744073709551616:Nat):Int)+((d:Nat):Int))=((q*3/18446744073709551616+d:Nat):Int):=addU (by omega)
   simp only[go_sem,q0,q16,Nat.zero_add,Nat.mul_one,Int.toNat_natCast]
   refine⟨by omega,by omega, ?_⟩
   simp only[go_sem,hr2]
   refine⟨ho2,by omega, ?_⟩
   refine Mul64_calls (y:=3) hq (by omega) ?_
   simp only[go_sem,ea,q0,q14,q15,q16,incI (i:=qs.length) (by omega)]
   refine⟨by omega,H.wf_set hw' hlt2 _,H.le_set hw hle hb2 _,by first|rfl|trivial|assumption,by first|rfl|trivial|assumption,by first|rfl|trivial|assumption,by first|rfl|trivial|assumption,qs++[q],_,rfl,hp2 q,hqd.append (Dig.one hq),by simp, ?_⟩
   rw[val_snoc,hvx,Nat.pow_succ]
   exact third_step hqv e
  ·have:i=xs.length:=by omega
   subst this
   rw[List.take_length] at hqv
   rw[List.drop_length,List.append_nil] at hs
   simp only[go_sem,q0,q14,q15,q16,q4,ltF h1]
   exact⟨hw',hle,by first|rfl|trivial|assumption,qs,cc,by first|rfl|trivial|assumption,hs,hqd,hql,hqv⟩
 ·rintro ρ h' ⟨hw',hle,q0,qs,cc,q4,hs,hqd,hql,hqv⟩
  have hcc:=third_cc hqv (by rw[←hql];exact val_lt 18446744073709551616 (by omega) qs hqd)
  have hc0:cc=0:=by
   rw[hxv] at hqv
   have h3:=pow_mod3 xs.length
   generalize 18446744073709551616^xs.length=P at*
   have hP:P=3*(P/3)+1:=by omega
   have:cc=0∨cc=1∨cc=2:=by omega
   rcases this with e|e|e
   ·exact e
   ·subst e;omega
   ·subst e;omega
  subst hc0
  have hv:val 18446744073709551616 qs=c:=by rw[hxv] at hqv;omega
  simp only[go_sem,q0,q4,neF (show((0:Nat):Int)=0 from rfl)]
  refine Norm_calls ⟨qs,hs.isN,hqd,by omega,hv⟩ fun r h2 hw2 hl2 hr=> ?_
  simp only[go_sem]
  exact fun _=>hk r h2 hw2 (H.le_trans hle hl2) (hr.base hle.1)
theorem part_calls {v:AV} {xs:List Nat} {from_ to:Nat} {a h:H} {K:AV→H→Prop} (hah:a.le h) (hv:IsN a v xs) (hft:from_<xs.length→from_≤to)
  (hk:∀r,IsN a r ((xs.take to).drop from_)→K r h):ACalls Tryz.prog 143 [v, .int .i64 (from_:Int), .int .i64 (to:Int)] h K:=by
 obtain⟨id,off,c,rfl⟩:=hv.form
 refine in_toom_part (by simp) fun hw=> ?_
 unfold c_toom_part
 rcases Nat.lt_or_ge from_ xs.length with h1|h1
 ·have hft:=hft h1
  simp only[go_sem,leF h1,minN]
  refine⟨by omega,by omega,by omega, .inl (by omega),(hv.mono hah).row,fun _=> ?_⟩
  have:=hv.cut (c':=c.map (· -from_)) (a:=from_) (b:=min to xs.length) (by omega) (by omega)
  rw[Nat.min_comm,take_min] at this
  rw[Nat.min_comm]
  exact hk _ this
 ·simp only[go_sem,leT h1]
  intro _
  refine hk _ ?_
  rw[List.drop_of_length_le (by rw[List.length_take];omega)]
  exact IsN.nil _ _
theorem bld2s {s:AV} {b:Bool} (h1:s.one=true):abuild [AV.sl none 0 0 none,AV.bool b] [(0,1,s)]=some [s, .bool b]:=by
 cases s<;>first|rfl|simp[AV.one] at h1
theorem bld2 {s:AV} {b c:Bool} (h1:s.one=true):abuild [AV.sl none 0 0 none,AV.bool b] [(0,1,s),(1,1, .bool c)]=some [s, .bool c]:=by
 cases s<;>first|rfl|simp[AV.one] at h1
theorem less_calls {v u:AV} {x y:Nat} {h:H} {K:AV→H→Prop} (nv:Nn h v x) (nu:Nn h u y)
  (hk:∀r h',h'.wf→h.le h'→Nf h.next h' r (am1 x y)→K (.agg [r, .bool (decide (x<y))]) h'):ACalls Tryz.prog 144 [v,u] h K:=by
 refine in_toom_less (by simp) fun hw=> ?_
 unfold c_toom_less
 have hl1:=H.le_new hw (H.le_refl h) ⟨some 39,2,[.sl none 0 0 none, .bool false]⟩
 have hw1:=H.wf_new hw ⟨some 39,2,[.sl none 0 0 none, .bool false]⟩
 have hr1:=H.rows_new h ⟨some 39,2,[.sl none 0 0 none, .bool false]⟩
 simp only[go_sem]
 refine lSub_calls (nv.mono hl1) (nu.mono hl1) (fun hc _=> ?_) (fun hc r h2 hw2 hl2 hr=> ?_)
 ·simp only[go_sem]
  refine lSub_calls (nu.mono hl1) (nv.mono hl1) (fun hc2=>by omega) fun _ r h2 hw2 hl2 hr=> ?_
  have hr2:=hl2.2 _ _ hr1
  have hn2:=H.row_lt hw2 hr2
  simp only[go_sem,bld2 hr.one]
  refine⟨by simp,by rw[List.all_cons,List.all_cons,List.all_nil,hr.one];rfl, ?_⟩
  simp only[go_sem,hr2]
  refine⟨by simp,by simp, ?_⟩
  have e:(⟨some 39,2,putAt [.sl none 0 0 none, .bool false] 0 [r, .bool true]⟩:Row)=⟨some 39,2,[r, .bool true]⟩:=rfl
  rw[e]
  have hg:(h2.set h.next ⟨some 39,2,[r, .bool true]⟩).gets h.next 0 2=some [r, .bool true]:=by rw[H.gets_of (H.rows_set _ _ _) (by simp)];rfl
  simp only[go_sem,hg]
  intro hw3
  have e2:am1 x y=y-x:=by unfold am1;rw[if_pos hc]
  have:=hk r _ hw3 (H.le_set hw (H.le_trans hl1 hl2) (Nat.le_refl _) _) (by rw[e2];exact Nf.base (Nf.setlt (Nat.lt_succ_self _) hr) (Nat.le_succ _))
  rw[decide_eq_true hc] at this
  exact this
 ·have hr2:=hl2.2 _ _ hr1
  simp only[go_sem,bld2s hr.one]
  refine⟨by simp,by rw[List.all_cons,List.all_cons,List.all_nil,hr.one];rfl, ?_⟩
  simp only[go_sem,hr2]
  refine⟨by simp,by simp, ?_⟩
  have e:(⟨some 39,2,putAt [.sl none 0 0 none, .bool false] 0 [r, .bool false]⟩:Row)=⟨some 39,2,[r, .bool false]⟩:=rfl
  rw[e]
  have hg:(h2.set h.next ⟨some 39,2,[r, .bool false]⟩).gets h.next 0 2=some [r, .bool false]:=by rw[H.gets_of (H.rows_set _ _ _) (by simp)];rfl
  simp only[go_sem,hg]
  intro hw3
  have e2:am1 x y=x-y:=by unfold am1;rw[if_neg (by omega)]
  have:=hk r _ hw3 (H.le_set hw (H.le_trans hl1 hl2) (Nat.le_refl _) _) (by rw[e2];exact Nf.base (Nf.setlt (Nat.lt_succ_self _) hr) (Nat.le_succ _))
  rw[decide_eq_false (by omega)] at this
  exact this
theorem twide_calls {v:AV} {n x:Nat} {h:H} {K:AV→H→Prop} (hv:Nt h v x) (hx:x<18446744073709551616^n) (hn:n≤400000)
  (hk:∀r h',h'.wf→h.le h'→Wf h.next h' r n x→K r h'):ACalls Tryz.prog 130 [v, .int .i64 (n:Int)] h K:=by
 obtain⟨xs,hv,hxd,hxt,rfl⟩:=hv
 have hl:=top_len hxd hxt
 have hl2:xs.length≤n:=by rw[hl];exact wlen_le.2 hx
 obtain⟨id,off,c,rfl⟩:=hv.form
 refine in_toom_wide (by simp) fun hw=> ?_
 unfold c_toom_wide
 simp only[go_sem]
 refine⟨by omega,by omega,by omega, ?_⟩
 have hl1:=H.le_new hw (H.le_refl h) ⟨some 73,1,zs [AV.int .u64 0] n⟩
 have hw1:=H.wf_new hw ⟨some 73,1,zs [AV.int .u64 0] n⟩
 have hG:=IsG.made (b:=h.next) (h:=h) (Nat.le_refl _) n
 refine Len_calls (hv.mono hl1) hxd (by omega) ?_
 rw[←hl]
 simp only[go_sem]
 refine⟨by omega,by omega,(hv.mono hl1).row, ?_⟩
 refine cpy_num (b:=h.next) hw1 hG (hv.mono hl1) (by simp;omega) fun h2 hw2 hn2 hle2 hs2=> ?_
 simp only[go_sem]
 refine fun _=>hk _ h2 hw2 (hle2 h hw hl1 (Nat.le_refl _)) ⟨_,hs2,hxd.append ((Dig.zeros n).drop _),by simp;omega, ?_⟩
 rw[List.drop_replicate,val_zeros]
theorem Sum_calls {v:AV} {xs:List Nat} {h:H} {K:AV→H→Prop} (hv:IsA 1 NnL h v xs) (hb:∀x∈xs,Big x) (hl:xs.length≤1000000)
  (hk:∀r h',h'.wf→h.le h'→Nf h.next h' r xs.sum→K r h'):ACalls Tryz.prog 145 [v] h K:=by
 refine in_limb_Sum (by simp) fun hw=> ?_
 unfold c_limb_Sum
 simp only[go_sem]
 refine Join_calls (k:=0) (by omega) hv hb hl fun r h' hw' hl' hr=> ?_
 have e:∀l:List Nat,val (18446744073709551616^0) l=l.sum:=by
  intro l
  induction l with
  |nil=>rfl
  |cons x l ih=>simp only[val,ih,List.sum_cons,Nat.pow_zero,Nat.one_mul]
 rw[e] at hr
 simp only[go_sem]
 exact fun _=>hk r h' hw' hl' hr
theorem sub_calls {v u:AV} {x:Nat} {xs:List Nat} {h:H} {K:AV→H→Prop} (nv:Nn h v x) (hv:IsA 1 NnL h u xs) (hb:∀x∈xs,Big x) (hl:xs.length≤1000000) (hs:xs.sum≤x) (hx:Big x)
  (hk:∀r h',h'.wf→h.le h'→Nf h.next h' r (x-xs.sum)→K r h'):ACalls Tryz.prog 147 [v,u] h K:=by
 refine in_toom_sub (by simp) fun hw=> ?_
 unfold c_toom_sub
 simp only[go_sem]
 refine Sum_calls hv hb hl fun s h1 hw1 hl1 hns=> ?_
 simp only[go_sem]
 refine lSub_calls (nv.mono hl1) (hns.nn (hx.le hs)) (fun hc=>by omega) fun _ r h2 hw2 hl2 hr=> ?_
 simp only[go_sem]
 exact fun _=>hk r h2 hw2 (H.le_trans hl1 hl2) (hr.base hl1.1)
theorem sub2_calls {v u:AV} {x y:Nat} {h:H} {K:AV→H→Prop} (nv:Nn h v x) (nu:Nn h u y) (hs:y≤x)
  (hk:∀r h',h'.wf→h.le h'→Nf h.next h' r (x-y)→K r h'):ACalls Tryz.prog 146 [v,u] h K:=by
 refine in_toom_sub2 (by simp) fun hw=> ?_
 unfold c_toom_sub2
 simp only[go_sem]
 refine lSub_calls nv nu (fun hc=>by omega) fun _ r h2 hw2 hl2 hr=> ?_
 simp only[go_sem]
 exact fun _=>hk r h2 hw2 hl2 hr
structure PSt (N:Nat) (h a:H) (b p:Nat) (c:Nat→List AV) (g:H):Prop where
 wf:g.wf
 le:h.le g
 ale:a.le g
 nx:b≤g.next
 r:∀i,i<N→g.rows (p+i)=some ⟨some 39,2,c i⟩
theorem PSt.mono {N b p:Nat} {h a g g':H} {c:Nat→List AV} (s:PSt N h a b p c g) (hw:g'.wf) (hl:g.le g'):PSt N h a b p c g':=
 ⟨hw,H.le_trans s.le hl,H.le_trans s.ale hl,Nat.le_trans s.nx hl.1,fun i hi=>hl.2 _ _ (s.r i hi)⟩
theorem H.le_set_none {a h:H} (k:a.le h) {i:Nat} (hi:a.rows i=none) (r:Row):a.le (h.set i r):=⟨k.1,fun j q e=>by
 simp only[H.set]
 rw[if_neg (by rintro rfl;rw[hi] at e;cases e)]
 exact k.2 j q e⟩
theorem PSt.set {N b p i:Nat} {h a g:H} {c:Nat→List AV} (s:PSt N h a b p c g) (hh:h.wf) (hp:h.next≤p) (hi:i<N) (ha:a.rows (p+i)=none) (l:List AV):PSt N h a b p (fun j=>if j=i then l else c j) (g.set (p+i) ⟨some 39,2,l⟩):=by
 refine⟨H.wf_set s.wf (H.row_lt s.wf (s.r i hi)) _,H.le_set hh s.le (by omega) _,H.le_set_none s.ale ha _,s.nx,fun j hj=> ?_⟩
 by_cases e:j=i
 ·subst e
  rw[H.rows_set,if_pos rfl]
 ·rw[H.rows_set_ne (by omega),if_neg e]
  exact s.r j hj
theorem PSt.gets {N b p i:Nat} {h a g:H} {c:Nat→List AV} (s:PSt N h a b p c g) (hi:i<N) (hc:(c i).length=2):g.gets (p+i) 0 2=some (c i):=by
 rw[H.gets_of (s.r i hi) (by simp[hc])]
 simp[List.take_of_length_le (Nat.le_of_eq hc)]
theorem PSt.five {h:H} {l:List AV} (hw:h.wf):PSt 5 h h (h.next+5) h.next (fun _=>l) (((((h.new ⟨some 39,2,l⟩).new ⟨some 39,2,l⟩).new ⟨some 39,2,l⟩).new ⟨some 39,2,l⟩).new ⟨some 39,2,l⟩):=by
 have w1:=H.wf_new hw ⟨some 39,2,l⟩
 have w2:=H.wf_new w1 ⟨some 39,2,l⟩
 have w3:=H.wf_new w2 ⟨some 39,2,l⟩
 have w4:=H.wf_new w3 ⟨some 39,2,l⟩
 have l1:=H.le_new hw (H.le_refl h) ⟨some 39,2,l⟩
 have l2:=H.le_new w1 (H.le_refl _) ⟨some 39,2,l⟩
 have l3:=H.le_new w2 (H.le_refl _) ⟨some 39,2,l⟩
 have l4:=H.le_new w3 (H.le_refl _) ⟨some 39,2,l⟩
 have l5:=H.le_new w4 (H.le_refl _) ⟨some 39,2,l⟩
 refine⟨H.wf_new w4 _,(H.le_trans l1 (H.le_trans l2 (H.le_trans l3 (H.le_trans l4 l5)))),(H.le_trans l1 (H.le_trans l2 (H.le_trans l3 (H.le_trans l4 l5)))),Nat.le_refl _,fun i hi=> ?_⟩
 have:i=0∨i=1∨i=2∨i=3∨i=4:=by omega
 rcases this with rfl|rfl|rfl|rfl|rfl
 ·exact(H.le_trans l2 (H.le_trans l3 (H.le_trans l4 l5))).2 _ _ (H.rows_new _ _)
 ·exact(H.le_trans l3 (H.le_trans l4 l5)).2 _ _ (H.rows_new _ _)
 ·exact(H.le_trans l4 l5).2 _ _ (H.rows_new _ _)
 ·exact l5.2 _ _ (H.rows_new _ _)
 ·exact H.rows_new _ _
def H.del5 (g:H) (p:Nat):H:=((((g.del (some p)).del (some (p+1))).del (some (p+2))).del (some (p+3))).del (some (p+4))
theorem del5_le (g:H) (p:Nat):(g.del5 p).le g:=H.le_trans (H.del_le _) (H.le_trans (H.del_le _) (H.le_trans (H.del_le _) (H.le_trans (H.del_le _) (H.del_le _))))
theorem del5_none (g:H) (p:Nat) {i:Nat} (hi:i<5):(g.del5 p).rows (p+i)=none:=by
 unfold H.del5
 have:i=0∨i=1∨i=2∨i=3∨i=4:=by omega
 rcases this with rfl|rfl|rfl|rfl|rfl<;>simp[H.del]
theorem Nf.del5 {b p x:Nat} {g:H} {v:AV} (hp:p+5≤b) (hv:Nf b g v x):Nf b (g.del5 p) v x:=by
 have f:∀k,k<5→∀i,some (p+k)=some i→i<b:=fun k hk i e=>by injection e;omega
 exact Nf.del (f 4 (by omega)) (Nf.del (f 3 (by omega)) (Nf.del (f 2 (by omega)) (Nf.del (f 1 (by omega)) (Nf.del (f 0 (by omega)) hv))))
theorem stone {id off:Nat} {h:H} {v:AV} {K:AV→H→Prop} (h1:v.one=true) (hk:putK (h.rows id) id off 1 [v] h K):stK 1 (.ptr (some (id,off))) v h K:=by
 cases v<;>first|exact⟨rfl,rfl,by simp[AV.cells,AV.one],hk⟩|simp[AV.one] at h1
theorem PSt.st1 {N b p i:Nat} {h a g:H} {c:Nat→List AV} {v u w:AV} {K:AV→H→Prop} (s:PSt N h a b p c g) (hh:h.wf) (hp:h.next≤p) (hi:i<N) (ha:a.rows (p+i)=none) (hc:c i=[u,w]) (h1:v.one=true)
  (hk:∀g',PSt N h a b p (fun j=>if j=i then [v,w] else c j) g'→(∀{b' x:Nat} {z:AV},p+i<b'→Nf b' g z x→Nf b' g' z x)→K .junk g'):stK 1 (.ptr (some (p+i,0))) v g K:=by
 refine stone h1 ?_
 rw[s.r i hi]
 refine⟨by simp,by rw[hc];simp, ?_⟩
 have:=hk _ (s.set hh hp hi ha [v,w]) (fun hb hn=>hn.setlt hb)
 rw[hc]
 exact this
theorem PSt.st2 {N b p i:Nat} {h a g:H} {c:Nat→List AV} {v w:AV} {K:AV→H→Prop} (s:PSt N h a b p c g) (hh:h.wf) (hp:h.next≤p) (hi:i<N) (ha:a.rows (p+i)=none) (hc:(c i).length=2) (h1:v.one=true) (h2:w.one=true)
  (hk:∀g',PSt N h a b p (fun j=>if j=i then [v,w] else c j) g'→(∀{b' x:Nat} {z:AV},p+i<b'→Nf b' g z x→Nf b' g' z x)→K .junk g'): [v,w].length=2∧[v,w].all (·.one)=true∧putK (g.rows (p+i)) (p+i) 0 2 [v,w] g K:=by
 refine⟨rfl,by simp[h1,h2], ?_⟩
 rw[s.r i hi]
 refine⟨by simp,by rw[hc];exact Nat.le_refl _, ?_⟩
 have e:putAt (c i) 0 [v,w]=[v,w]:=by
  show(c i).take 0++[v,w]++(c i).drop (0+2)=[v,w]
  rw[List.take_zero,List.drop_of_length_le (by omega)]
  rfl
 have:=hk _ (s.set hh hp hi ha [v,w]) (fun hb hn=>hn.setlt hb)
 rw[e]
 exact this
theorem PSt.self {N b p i:Nat} {h a g:H} {c:Nat→List AV} {v w:AV} {K:AV→H→Prop} (s:PSt N h a b p c g) (hi:i<N) (hc:c i=[v,w]) (h1:v.one=true) (h2:w.one=true)
  (hk:K .junk g): [v,w].length=2∧[v,w].all (·.one)=true∧putK (g.rows (p+i)) (p+i) 0 2 [v,w] g K:=by
 refine⟨rfl,by simp[h1,h2], ?_⟩
 have hr:=s.r i hi
 rw[hr]
 refine⟨by simp,by rw[hc];exact Nat.le_refl _, ?_⟩
 have e:putAt (c i) 0 [v,w]=c i:=by rw[hc];rfl
 rw[e,H.set_self hr]
 exact hk
theorem val_cut' (B:Nat) (xs:List Nat) (k:Nat):val B xs=val B (xs.take k)+B^k*val B (xs.drop k):=by
 rcases Nat.le_total k xs.length with h|h
 ·exact val_cut B xs k h
 ·rw[List.take_of_length_le h,List.drop_of_length_le h]
  simp[val]
theorem IsN.nn' {h:H} {v:AV} {xs:List Nat} {x:Nat} (hv:IsN h v xs) (hd:Dig xs) (hl:xs.length≤1099511627776) (hx:val 18446744073709551616 xs=x):Nn h v x:=⟨xs,hv,hd,hl,hx⟩
theorem Points_calls {v:AV} {n k x:Nat} {h:H} {K:AV→H→Prop} (nv:Wn h v n x) (hk1:1≤k) (hk2:k≤16384) (hn:n≤32768)
  (hk:∀q0 q1 qm q2 qi a0 a1 a2 h',h'.wf→h.le h'→x=a0+18446744073709551616^k*a1+18446744073709551616^k*18446744073709551616^k*a2→a0<18446744073709551616^k→a1<18446744073709551616^k→a2<18446744073709551616^(n-2*k)→Nf h.next h' q0 a0→Nf h.next h' q1 (a0+a2+a1)→Nf h.next h' qm (am1 (a0+a2) a1)→Nf h.next h' q2 (a0+2*a1+4*a2)→Nf h.next h' qi a2→
   K (.tup [.agg [q0, .bool false], .agg [q1, .bool false], .agg [qm, .bool (decide (a0+a2<a1))], .agg [q2, .bool false], .agg [qi, .bool false]]) h'):
  ACalls Tryz.prog 129 [v, .int .i64 (k:Int)] h K:=by
 refine in_toom_Points (by simp) fun hw=> ?_
 unfold c_toom_Points
 have s0:=PSt.five (l:=[AV.sl none 0 0 none, .bool false]) hw
 have e1:max (1:Int) (min (k:Int) 16384)=(k:Int):=by omega
 simp only[go_sem,e1,H.next_new]
 simp only[Nat.add_assoc,Nat.reduceAdd]
 generalize (((((h.new ⟨some 39,2,[AV.sl none 0 0 none, .bool false]⟩).new ⟨some 39,2,[AV.sl none 0 0 none, .bool false]⟩).new ⟨some 39,2,[AV.sl none 0 0 none, .bool false]⟩).new ⟨some 39,2,[AV.sl none 0 0 none, .bool false]⟩).new ⟨some 39,2,[AV.sl none 0 0 none, .bool false]⟩)=g0 at*
 have hxb:Big x:=lt_bigW nv.lt (by omega)
 refine Norm_calls ((nv.mono s0.le).nn (by omega)) fun A g1 hw1 hl1 hA=> ?_
 have s1:=s0.mono hw1 hl1
 have hAb:=Nf.base hA s0.nx
 obtain⟨ws,hA1,had,hat,hav⟩:=Nf.del5 (Nat.le_refl _) hAb
 have hal:ws.length≤n:=by rw[top_len had hat,hav];exact wlen_le.2 nv.lt
 obtain⟨iA,cA,rfl⟩:=hA1.form
 have hA2:=hA1.isN
 have hpw:=fun i (hi:i<5)=>del5_none g1 h.next hi
 have s1:PSt 5 h (g1.del5 h.next) (h.next+5) h.next _ g1:=⟨s1.wf,s1.le,del5_le _ _,s1.nx,s1.r⟩
 clear hA hAb
 generalize g1.del5 h.next=a at*
 have a2:=mulI (a:=2) (b:=k) (by omega)
 have a2':IntKind.i64.wrap (2*(k:Int))=((2*k:Nat):Int):=a2
 simp only[go_sem,a2']
 refine part_calls (a:=a) s1.ale hA2 (from_:=0) (fun _=>by omega) fun A0 h0=> ?_
 simp only[go_sem,a2']
 refine part_calls (a:=a) s1.ale hA2 (fun _=>by omega) fun A1 h1=> ?_
 simp only[go_sem,a2']
 refine part_calls (a:=a) s1.ale hA2 (fun hh=>Nat.le_of_lt hh) fun A2 h2=> ?_
 rw[List.drop_zero] at h0
 rw[List.take_length] at h2
 obtain⟨α0,e0⟩:∃z,z=val 18446744073709551616 (ws.take k):=⟨_,rfl⟩
 obtain⟨α1,e1'⟩:∃z,z=val 18446744073709551616 ((ws.take (2*k)).drop k):=⟨_,rfl⟩
 obtain⟨α2,e2'⟩:∃z,z=val 18446744073709551616 (ws.drop (2*k)):=⟨_,rfl⟩
 have b0:α0<18446744073709551616^k:=by rw[e0];exact val_lt_take 18446744073709551616 (by omega) ws had k
 have e1'':(ws.take (2*k)).drop k=(ws.drop k).take k:=by rw[List.drop_take];congr 1;omega
 have b1:α1<18446744073709551616^k:=by rw[e1',e1''];exact val_lt_take 18446744073709551616 (by omega) _ (had.drop k) k
 have b2:α2<18446744073709551616^(n-2*k):=by
  rw[e2']
  refine Nat.lt_of_lt_of_le (val_lt 18446744073709551616 (by omega) _ (had.drop _)) (Nat.pow_le_pow_right (by omega) ?_)
  rw[List.length_drop]
  omega
 have ex:x=α0+18446744073709551616^k*α1+18446744073709551616^k*18446744073709551616^k*α2:=by
  rw[←hav,val_cut' 18446744073709551616 ws k,val_cut' 18446744073709551616 (ws.drop k) k,List.drop_drop,show k+k=2*k by omega,←e1'',←e0,←e1',←e2',Nat.mul_add,Nat.mul_assoc,Nat.add_assoc]
 have n0:Nn a A0 α0:=h0.nn' (had.take _) (by rw[List.length_take];omega) e0.symm
 have n1:Nn a A1 α1:=h1.nn' ((had.take _).drop _) (by rw[List.length_drop,List.length_take];omega) e1'.symm
 have n2:Nn a A2 α2:=h2.nn' (had.drop _) (by rw[List.length_drop];omega) e2'.symm
 have px:18446744073709551616^k*18446744073709551616=18446744073709551616^(k+1):=(Nat.pow_succ ..).symm
 have big1:∀{z:Nat},z<18446744073709551616^(k+1)→Big z:=fun hz=>lt_bigW hz (by omega)
 have big0:∀{z:Nat},z≤18446744073709551616^k→Big z:=fun hz=>big1 (by have:1≤18446744073709551616^k:=Nat.pow_pos (by omega);omega)
 have hb2:Big α2:=lt_bigW b2 (by omega)
 clear h0 h1 h2 e0 e1' e2' e1''
 simp only[go_sem]
 refine lAdd_calls (n0.mono s1.ale) (n2.mono s1.ale) fun E g2 hw2 hl2 hE=> ?_
 have s2:=s1.mono hw2 hl2
 have hE:=Nf.base hE s1.nx
 simp only[go_sem]
 refine Norm_calls (n0.mono s2.ale) fun P0 g3 hw3 hl3 hP0=> ?_
 have s3:=s2.mono hw3 hl3
 have hP0:=Nf.base hP0 s2.nx
 have hE:=hE.mono hl3
 simp only[go_sem]
 refine s3.st1 (i:=0) hw (Nat.le_refl _) (by omega) (hpw 0 (by omega)) rfl hP0.one fun g4 s4 k4=> ?_
 have hE:=k4 (by omega) hE
 have hP0:=k4 (by omega) hP0
 have bE:Big (α0+α2):=hxb.le (by rw[ex];have:1≤18446744073709551616^k*18446744073709551616^k:=Nat.mul_pos (Nat.pow_pos (by omega)) (Nat.pow_pos (by omega));have:=Nat.mul_le_mul_right α2 this;omega)
 simp only[go_sem]
 refine lAdd_calls (hE.nn bE) (n1.mono s4.ale) fun P1 g5 hw5 hl5 hP1=> ?_
 have s5:=s4.mono hw5 hl5
 have hP1:=Nf.base hP1 s4.nx
 have hE:=hE.mono hl5
 have hP0:=hP0.mono hl5
 simp only[go_sem]
 refine s5.st1 (i:=1) hw (Nat.le_refl _) (by omega) (hpw 1 (by omega)) rfl hP1.one fun g6 s6 k6=> ?_
 have hE:=k6 (by omega) hE
 have hP0:=k6 (by omega) hP0
 have hP1:=k6 (by omega) hP1
 simp only[go_sem]
 refine less_calls (hE.nn bE) (n1.mono s6.ale) fun M g7 hw7 hl7 hM=> ?_
 have s7:=s6.mono hw7 hl7
 have hM:=Nf.base hM s6.nx
 have hP0:=hP0.mono hl7
 have hP1:=hP1.mono hl7
 simp only[go_sem]
 refine s7.st2 (v:=M) (w:= .bool (decide (α0+α2<α1))) (i:=2) hw (Nat.le_refl _) (by omega) (hpw 2 (by omega)) rfl hM.one rfl fun g8 s8 k8=> ?_
 have hP0:=k8 (by omega) hP0
 have hP1:=k8 (by omega) hP1
 have hM:=k8 (by omega) hM
 simp only[go_sem]
 refine lShl_calls (n:=1) (n1.mono s8.ale) (by omega) fun S1 g9 hw9 hl9 hS1=> ?_
 have s9:=s8.mono hw9 hl9
 simp only[go_sem]
 refine lShl_calls (n:=2) (n2.mono s9.ale) (by omega) fun S2 g10 hw10 hl10 hS2=> ?_
 have s10:=s9.mono hw10 hl10
 have hS1:=hS1.mono hl10
 have h0one:A0.one=true:=by
  obtain⟨zs,hz,_⟩:=n0
  obtain⟨x1,x2,x3,rfl⟩:=hz.form
  rfl
 simp only[go_sem,lit3 h0one hS1.one hS2.one]
 have hl11:=H.le_new hw10 (H.le_refl g10) ⟨some 37,1,[A0,S1,S2]⟩
 have hw11:=H.wf_new hw10 ⟨some 37,1,[A0,S1,S2]⟩
 have s11:=s10.mono hw11 hl11
 have c0:Big α0:=hxb.le (by omega)
 have c1:Big (α1*2^1):=lt_bigW (k:=k+1) (by rw[←px];omega) (by omega)
 have c2:Big (α2*2^2):=lt_bigW (k:=n-2*k+1) (by rw[Nat.pow_succ];omega) (by omega)
 refine Sum_calls (xs:=[α0,α1*2^1,α2*2^2]) (nnl_lit rfl rfl ?_) (fun z hz=> ?_) (by simp) fun P2 g12 hw12 hl12 hP2=> ?_
 ·intro j c z h1 h2
  match j with
  |0=>simp at h1 h2;subst h1;subst h2;exact n0.mono s11.ale
  |1=>simp only[List.getElem?_cons_succ,List.getElem?_cons_zero,Option.some.injEq] at h1 h2;subst h1;subst h2;exact(hS1.mono hl11).nn c1
  |2=>simp only[List.getElem?_cons_succ,List.getElem?_cons_zero,Option.some.injEq] at h1 h2;subst h1;subst h2;exact(hS2.mono hl11).nn c2
  |j+3=>simp at h1
 ·simp only[List.mem_cons,List.not_mem_nil,or_false] at hz
  rcases hz with rfl|rfl|rfl
  ·exact c0
  ·exact c1
  ·exact c2
 have s12:=s11.mono hw12 hl12
 have hP2:=Nf.base hP2 s11.nx
 have l812:=(H.le_trans hl9 (H.le_trans hl10 (H.le_trans hl11 hl12)))
 have hP0:=hP0.mono l812
 have hP1:=hP1.mono l812
 have hM:=hM.mono l812
 simp only[go_sem]
 refine s12.st1 (i:=3) hw (Nat.le_refl _) (by omega) (hpw 3 (by omega)) rfl hP2.one fun g13 s13 k13=> ?_
 have hP0:=k13 (by omega) hP0
 have hP1:=k13 (by omega) hP1
 have hM:=k13 (by omega) hM
 have hP2:=k13 (by omega) hP2
 simp only[go_sem]
 refine Norm_calls (n2.mono s13.ale) fun PI g14 hw14 hl14 hPI=> ?_
 have s14:=s13.mono hw14 hl14
 have hPI:=Nf.base hPI s13.nx
 have hP0:=hP0.mono hl14
 have hP1:=hP1.mono hl14
 have hM:=hM.mono hl14
 have hP2:=hP2.mono hl14
 simp only[go_sem]
 refine s14.st1 (i:=4) hw (Nat.le_refl _) (by omega) (hpw 4 (by omega)) rfl hPI.one fun g15 s15 k15=> ?_
 have hP0:=k15 (by omega) hP0
 have hP1:=k15 (by omega) hP1
 have hM:=k15 (by omega) hM
 have hP2:=k15 (by omega) hP2
 have hPI:=k15 (by omega) hPI
 have G0:g15.gets h.next 0 2=some [P0, .bool false]:=s15.gets (i:=0) (by omega) rfl
 have G1:g15.gets (h.next+1) 0 2=some [P1, .bool false]:=s15.gets (i:=1) (by omega) rfl
 have G2:g15.gets (h.next+2) 0 2=some [M, .bool (decide (α0+α2<α1))]:=s15.gets (i:=2) (by omega) rfl
 have G3:g15.gets (h.next+3) 0 2=some [P2, .bool false]:=s15.gets (i:=3) (by omega) rfl
 have G4:g15.gets (h.next+4) 0 2=some [PI, .bool false]:=s15.gets (i:=4) (by omega) rfl
 simp only[go_sem,G0,G1,G2,G3,G4]
 refine s15.self (i:=0) (by omega) rfl hP0.one rfl ?_
 simp only[go_sem,G0,G1,G2,G3,G4,true_and]
 refine s15.self (i:=1) (by omega) rfl hP1.one rfl ?_
 simp only[go_sem,G0,G1,G2,G3,G4,true_and]
 refine s15.self (i:=2) (by omega) rfl hM.one rfl ?_
 simp only[go_sem,G0,G1,G2,G3,G4,true_and]
 refine s15.self (i:=3) (by omega) rfl hP2.one rfl ?_
 simp only[go_sem,G0,G1,G2,G3,G4,true_and]
 refine s15.self (i:=4) (by omega) rfl hPI.one rfl ?_
 simp only[go_sem,G0,G1,G2,G3,G4,true_and]
 refine fun _=>hk P0 P1 M P2 PI α0 α1 α2 g15 s15.wf s15.le ex b0 b1 b2 (hP0.base (by omega)) (hP1.base (by omega)) (hM.base (by omega)) ?_ (hPI.base (by omega))
 have e: [α0,α1*2^1,α2*2^2].sum=α0+2*α1+4*α2:=by simp only[List.sum_cons,List.sum_nil];omega
 rw[e] at hP2
 exact hP2.base (by omega)
theorem lit1a {z a:AV} (ha:a.one=true):abuild (zs [z] 1) [(0,1,a)]=some [a]:=k_lit1 ha
theorem lit2a {z a b:AV} (ha:a.one=true) (hb:b.one=true):abuild (zs [z] 2) [(0,1,a),(1,1,b)]=some [a,b]:=by
 have h1:∀{v:AV},v.one=true→v.held=true∧v.cells=[v]:=by
  intro v hv
  cases v<;>first|exact⟨rfl,rfl⟩|simp[AV.one] at hv
 simp[abuild,zs,(h1 ha).1,(h1 ha).2,(h1 hb).1,(h1 hb).2,putAt]
theorem lit5a {z a b c d e:AV} (ha:a.one=true) (hb:b.one=true) (hc:c.one=true) (hd:d.one=true) (he:e.one=true):abuild (zs [z] 5) [(0,1,a),(1,1,b),(2,1,c),(3,1,d),(4,1,e)]=some [a,b,c,d,e]:=by
 have h1:∀{v:AV},v.one=true→v.held=true∧v.cells=[v]:=by
  intro v hv
  cases v<;>first|exact⟨rfl,rfl⟩|simp[AV.one] at hv
 simp[abuild,zs,(h1 ha).1,(h1 ha).2,(h1 hb).1,(h1 hb).2,(h1 hc).1,(h1 hc).2,(h1 hd).1,(h1 hd).2,(h1 he).1,(h1 he).2,putAt]
theorem Nn.one {x:Nat} {h:H} {v:AV} (hv:Nn h v x):v.one=true:=by
 obtain⟨xs,h1,_⟩:=hv
 obtain⟨id,off,c,rfl⟩:=h1.form
 rfl
theorem nn_list {h:H} {t:TypeId} {l:List AV} {xs:List Nat} (hw:h.wf) (hl:l.length=xs.length) (h1:∀(j:Nat) (a:AV) (x:Nat),l[j]? =some a→xs[j]? =some x→Nn h a x):IsA 1 NnL (h.new ⟨some t,1,l⟩) (.sl (some h.next) 0 l.length (some l.length)) xs:=
 nnl_lit rfl hl fun j a x q1 q2=>(h1 j a x q1 q2).mono (H.le_new hw (H.le_refl h) _)
theorem joined_calls {k c0 c1 c2 c3 c4 r0 r1 rm r2 ri κ:Nat} {neg:Bool} {v0 v1 vm v2 vi:AV} {h:H} {K:AV→H→Prop} (hk16:k≤16384) (five:FiveV c0 c1 c2 c3 c4 r0 r1 rm r2 ri neg) (n0:Nn h v0 r0) (n1:Nn h v1 r1) (nm:Nn h vm rm) (n2:Nn h v2 r2) (ni:Nn h vi ri) (hκ:κ≤100000) (h1:r1<18446744073709551616^κ) (h2:r2<18446744073709551616^κ)
  (hk:∀r h',h'.wf→h.le h'→Nf h.next h' r (val (18446744073709551616^k) [c0,c1,c2,c3,c4])→K r h'):ACalls Tryz.prog 131 [.int .i64 (k:Int),v0,v1,vm,v2,vi, .bool neg] h K:=by
 have f0:=five.h0
 have f1:=five.h1
 have f2:=five.h2
 have fi:=five.hi
 have fm:rm≤r1:=by
  cases neg with
  |false=>have:=five.hm rfl;omega
  |true=>have:=five.hn rfl;omega
 have hκ2:18446744073709551616^(κ+1)=18446744073709551616^κ*18446744073709551616:=Nat.pow_succ ..
 have bg:∀{z:Nat},z≤2*r1→Big z:=fun hz=>lt_bigW (k:=κ+1) (by omega) (by omega)
 have bg2:∀{z:Nat},z≤2*r2→Big z:=fun hz=>lt_bigW (k:=κ+1) (by omega) (by omega)
 refine in_toom_joined (by simp) fun hw=> ?_
 unfold c_toom_joined
 simp only[go_sem]
 refine lAdd_calls n1 nm fun E h1 hw1 hl1 hE=> ?_
 simp only[go_sem]
 refine sub2_calls (n1.mono hl1) (nm.mono hl1) fm fun O h2 hw2 hl2 hO=> ?_
 have hE:=hE.mono hl2
 have l2:=(H.le_trans hl1 hl2)
 simp only[go_sem]
 refine cond_cut (fun ρ h'=>h'=h2∧ρ 0= .int .i64 (k:Int)∧ρ 1=v0∧ρ 4=v2∧ρ 5=vi∧∃e o,Nn h2 (ρ 15) e∧Nn h2 (ρ 16) o∧e/2=c0+c2+c4∧o/2=c1+c3) ?_ ?_
 ·cases neg with
  |false=>
   have:=five.hm rfl
   simp only[go_sem]
   exact⟨trivial,trivial,trivial,trivial,trivial,_,_,hE.nn (bg (by omega)),hO.nn (bg (by omega)),by omega,by omega⟩
  |true=>
   have:=five.hn rfl
   simp only[go_sem]
   exact⟨trivial,trivial,trivial,trivial,trivial,_,_,hO.nn (bg (by omega)),hE.nn (bg (by omega)),by omega,by omega⟩
 rintro ρ h3 ⟨rfl,q0,q1,q4,q5,e,o,ne,no,he,ho⟩
 have n0:=n0.mono l2
 have n2:=n2.mono l2
 have ni:=ni.mono l2
 simp only[go_sem,q0,q1,q4,q5]
 refine lShr_calls (n:=1) ne (by omega) fun E2 h4 hw4 hl4 hE2=> ?_
 simp only[go_sem,q0,q1,q4,q5]
 refine lShr_calls (n:=1) (no.mono hl4) (by omega) fun O2 h5 hw5 hl5 hO2=> ?_
 rw[Nat.pow_one,he] at hE2
 rw[Nat.pow_one,ho] at hO2
 have l5:=(H.le_trans hl4 hl5)
 have hE2:=hE2.mono hl5
 simp only[go_sem,q0,q1,q4,q5,lit2a n0.one ni.one]
 have hl6:=H.le_new hw5 (H.le_refl h5) ⟨some 37,1,[v0,vi]⟩
 have hw6:=H.wf_new hw5 ⟨some 37,1,[v0,vi]⟩
 have ls:∀(l:List Nat) (B:Nat),(∀z∈l,z≤B)→Big B→∀z∈l,Big z:=fun l B h1 hB z hz=>hB.le (h1 z hz)
 refine sub_calls ((hE2.mono hl6).nn (bg (by omega))) (nn_list (xs:=[r0,ri]) hw5 rfl ?_) (ls _ (2*r1) (by simp;omega) (bg (by omega))) (by simp) (by simp;omega) (bg (by omega)) fun C2 h7 hw7 hl7 hC2=> ?_
 ·intro j a z q1 q2
  match j with
  |0=>simp only[List.getElem?_cons_zero,Option.some.injEq] at q1 q2;subst q1;subst q2;exact n0.mono l5
  |1=>simp only[List.getElem?_cons_succ,List.getElem?_cons_zero,Option.some.injEq] at q1 q2;subst q1;subst q2;exact ni.mono l5
  |j+2=>simp at q1
 rw[show c0+c2+c4-[r0,ri].sum=c2 by simp;omega] at hC2
 have l7:=(H.le_trans l5 (H.le_trans hl6 hl7))
 simp only[go_sem,q0,q1,q4,q5]
 refine lShl_calls (n:=2) (hC2.nn (bg (by omega))) (by omega) fun S h8 hw8 hl8 hS=> ?_
 simp only[go_sem,q0,q1,q4,q5]
 refine lShl_calls (n:=4) (ni.mono (H.le_trans l7 hl8)) (by omega) fun T h9 hw9 hl9 hT=> ?_
 have hS:=hS.mono hl9
 have l9:=(H.le_trans l7 (H.le_trans hl8 hl9))
 simp only[go_sem,q0,q1,q4,q5,lit3 n0.one hS.one hT.one]
 have hl10:=H.le_new hw9 (H.le_refl h9) ⟨some 37,1,[v0,S,T]⟩
 have hw10:=H.wf_new hw9 ⟨some 37,1,[v0,S,T]⟩
 refine sub_calls (n2.mono (H.le_trans l9 hl10)) (nn_list (xs:=[r0,c2*2^2,ri*2^4]) hw9 rfl ?_) (ls _ (2*r2) (by simp;omega) (bg2 (by omega))) (by simp) (by simp;omega) (bg2 (by omega)) fun X h11 hw11 hl11 hX=> ?_
 ·intro j a z q1 q2
  match j with
  |0=>simp only[List.getElem?_cons_zero,Option.some.injEq] at q1 q2;subst q1;subst q2;exact n0.mono l9
  |1=>simp only[List.getElem?_cons_succ,List.getElem?_cons_zero,Option.some.injEq] at q1 q2;subst q1;subst q2;exact hS.nn (bg2 (by omega))
  |2=>simp only[List.getElem?_cons_succ,List.getElem?_cons_zero,Option.some.injEq] at q1 q2;subst q1;subst q2;exact hT.nn (bg2 (by omega))
  |j+3=>simp at q1
 rw[show r2-[r0,c2*2^2,ri*2^4].sum=2*(c1+4*c3) by simp;omega] at hX
 simp only[go_sem,q0,q1,q4,q5]
 refine lShr_calls (n:=1) (hX.nn (bg2 (by omega))) (by omega) fun Y h12 hw12 hl12 hY=> ?_
 rw[Nat.pow_one,Nat.mul_div_cancel_left _ (by omega)] at hY
 have hO2:=(hO2.mono (H.le_trans hl6 (H.le_trans hl7 (H.le_trans hl8 (H.le_trans hl9 (H.le_trans hl10 (H.le_trans hl11 hl12)))))))
 simp only[go_sem,q0,q1,q4,q5,lit1a hO2.one]
 have hl13:=H.le_new hw12 (H.le_refl h12) ⟨some 37,1,[O2]⟩
 refine sub_calls ((hY.mono hl13).nn (bg2 (by omega))) (nn_list (xs:=[c1+c3]) hw12 rfl ?_) (ls _ (2*r1) (by simp;omega) (bg (by omega))) (by simp) (by simp;omega) (bg2 (by omega)) fun Z h14 hw14 hl14 hZ=> ?_
 ·intro j a z q1 q2
  match j with
  |0=>simp only[List.getElem?_cons_zero,Option.some.injEq] at q1 q2;subst q1;subst q2;exact hO2.nn (bg (by omega))
  |j+1=>simp at q1
 rw[show c1+4*c3-[c1+c3].sum=3*c3 by simp;omega] at hZ
 simp only[go_sem,q0,q1,q4,q5]
 refine Third_calls (hZ.nn (bg2 (by omega))) (bg2 (by omega)) fun C3 h15 hw15 hl15 hC3=> ?_
 have hO2:=(hO2.mono (H.le_trans hl13 (H.le_trans hl14 hl15)))
 simp only[go_sem,q0,q1,q4,q5,lit1a hC3.one]
 have hl16:=H.le_new hw15 (H.le_refl h15) ⟨some 37,1,[C3]⟩
 refine sub_calls ((hO2.mono hl16).nn (bg (by omega))) (nn_list (xs:=[c3]) hw15 rfl ?_) (ls _ (2*r1) (by simp;omega) (bg (by omega))) (by simp) (by simp) (bg (by omega)) fun C1 h17 hw17 hl17 hC1=> ?_
 ·intro j a z q1 q2
  match j with
  |0=>simp only[List.getElem?_cons_zero,Option.some.injEq] at q1 q2;subst q1;subst q2;exact hC3.nn (bg (by omega))
  |j+1=>simp at q1
 rw[show c1+c3-[c3].sum=c1 by simp] at hC1
 have hC3:=hC3.mono (H.le_trans hl16 hl17)
 have hC2:=hC2.mono (H.le_trans hl8 (H.le_trans hl9 (H.le_trans hl10 (H.le_trans hl11 (H.le_trans hl12 (H.le_trans hl13 (H.le_trans hl14 (H.le_trans hl15 (H.le_trans hl16 hl17)))))))))
 have l17:=(H.le_trans l9 (H.le_trans hl10 (H.le_trans hl11 (H.le_trans hl12 (H.le_trans hl13 (H.le_trans hl14 (H.le_trans hl15 (H.le_trans hl16 hl17))))))))
 simp only[go_sem,q0,q1,q4,q5,lit5a n0.one hC1.one hC2.one hC3.one ni.one]
 refine Join_calls (xs:=[r0,c1,c2,c3,ri]) (by omega) (nn_list hw17 rfl ?_) (ls _ (2*r1) (by simp;omega) (bg (by omega))) (by simp) fun r h18 hw18 hl18 hr=> ?_
 ·intro j a z q1 q2
  match j with
  |0=>simp only[List.getElem?_cons_zero,Option.some.injEq] at q1 q2;subst q1;subst q2;exact n0.mono l17
  |1=>simp only[List.getElem?_cons_succ,List.getElem?_cons_zero,Option.some.injEq] at q1 q2;subst q1;subst q2;exact hC1.nn (bg (by omega))
  |2=>simp only[List.getElem?_cons_succ,List.getElem?_cons_zero,Option.some.injEq] at q1 q2;subst q1;subst q2;exact hC2.nn (bg (by omega))
  |3=>simp only[List.getElem?_cons_succ,List.getElem?_cons_zero,Option.some.injEq] at q1 q2;subst q1;subst q2;exact hC3.nn (bg (by omega))
  |4=>simp only[List.getElem?_cons_succ,List.getElem?_cons_zero,Option.some.injEq] at q1 q2;subst q1;subst q2;exact ni.mono l17
  |j+5=>simp at q1
 have hn17:=H.le_new hw17 (H.le_refl h17) ⟨some 37,1,[v0,C1,C2,C3,vi]⟩
 simp only[go_sem]
 rw[f0,fi] at hr
 exact fun _=>hk r h18 hw18 (H.le_trans l2 (H.le_trans l17 (H.le_trans hn17 hl18))) (hr.base (H.le_trans l2 (H.le_trans l17 hn17)).1)
theorem PSt.getE {N b p i j u:Nat} {h a g g':H} {c:Nat→List AV} (s:PSt N h a b p c g) (hi:i<N) (hu:u<p) (hl:H.lee u g g'):g'.get (p+i) j=(c i)[j]? :=by
 rw[H.get_of (hl.2 _ _ (by omega) (s.r i hi))]
theorem am1_le {s d:Nat}:am1 s d≤s+d:=by unfold am1;split<;>omega
theorem Toom_calls {e u m0 nw dp a b x y N top:Nat} {t:Tb} {va vb:AV} {f:FuncId} {first caps:List AV} {C L:Nat→Nat→Nat} {h:H} {K:AV→H→Prop} (he:Eng 3 h e u) (ht:Tune h u m0 nw dp t) (nv:Wn h va a x) (nu:Wn h vb b y) (hlen:2*((max a b+2)/3)<min a b) (ha:a≤16384) (hb:b≤16384)
  (hin:InOK f first caps h u t N top C L) (hN:(max a b+2)/3+1≤N) (D:Nat) (hD1:L ((max a b+2)/3) ((max a b+2)/3)≤D) (hD2:L (max a b-2*((max a b+2)/3)) (min a b-2*((max a b+2)/3))≤D) (hD3:L ((max a b+2)/3+1) ((max a b+2)/3+1)≤D) (htop:nw+1+D≤top) (hnw:nw≤1000000000)
  (hk:∀r h' m' dp',h'.wf→H.lee u h h'→Tune h' u m' nw dp' t→Sp m0 dp m' dp' nw (C ((max a b+2)/3) ((max a b+2)/3)+3*C ((max a b+2)/3+1) ((max a b+2)/3+1)+C (max a b-2*((max a b+2)/3)) (min a b-2*((max a b+2)/3))) (D+1)→Nf h.next h' r (x*y)→K (.tup [r, .bool true]) h'):
  ACalls Tryz.prog 115 [.ptr (some (e,0)),va,vb, .fn f first caps] h K:=by
 refine in_toom_Engine_Toom (by simp) fun hw=> ?_
 unfold c_toom_Engine_Toom
 obtain⟨ida,offa,ca,rfl⟩:=nv.form
 obtain⟨idb,offb,cb,rfl⟩:=nu.form
 simp only[go_sem]
 refine cond_cut (fun ρ' h2=>h2=h∧ρ' 0= .ptr (some (e,0))∧ρ' 3= .fn f first caps∧∃v1 v2 x1 y1,ρ' 1=v1∧ρ' 2=v2∧Wn h v1 (max a b) x1∧Wn h v2 (min a b) y1∧x1*y1=x*y) ?_ ?_
 ·rcases Nat.lt_or_ge a b with h1|h1
  ·simp only[go_sem,ltT h1]
   refine⟨trivial,trivial,trivial,_,_,y,x,rfl,rfl, ?_, ?_,Nat.mul_comm _ _⟩
   ·rw[Nat.max_eq_right (by omega)];exact nu
   ·rw[Nat.min_eq_left (by omega)];exact nv
  ·simp only[go_sem,ltF h1]
   refine⟨trivial,trivial,trivial,_,_,x,y,rfl,rfl, ?_, ?_,rfl⟩
   ·rw[Nat.max_eq_left (by omega)];exact nv
   ·rw[Nat.min_eq_right (by omega)];exact nu
 rintro ρ h0 ⟨rfl,q0,q3,v1,v2,x1,y1,q1,q2,nv,nu,hxy⟩
 rw[←hxy] at hk
 have hmn:min a b≤max a b:=by omega
 have hmx:max a b≤16384:=by omega
 clear hxy
 generalize max a b=n at*
 generalize min a b=m at*
 obtain⟨k,hH⟩:∃k,k=(n+2)/3:=⟨_,rfl⟩
 rw[←hH] at hlen hN hD1 hD2 hD3 hk
 obtain⟨ida,offa,ca,rfl⟩:=nv.form
 obtain⟨idb,offb,cb,rfl⟩:=nu.form
 obtain⟨e1,he1,G1⟩:=he.open ht
 obtain⟨e2,he2,G2⟩:=he1.open ht
 obtain⟨e3,he3,G3⟩:=he2.open ht
 obtain rfl:e3=u:=he3
 have g1:=G1 h0 (H.lee_refl _ _)
 have g2:=G2 h0 (H.lee_refl _ _)
 have g3:=G3 h0 (H.lee_refl _ _)
 have hul:=H.row_lt hw ht
 have a1:IntKind.i64.wrap ((n:Int)+2)=((n+2:Nat):Int):=by rw[wI]<;>omega
 have a2:IntKind.i64.wrap (((n+2:Nat):Int).tdiv 3)=(k:Int):=by
  have e:((n+2:Nat):Int).tdiv 3=(((n+2)/3:Nat):Int):=tdivN (a:=n+2) (b:=3)
  rw[e,←hH,wI]<;>omega
 have a3:IntKind.i64.wrap (2*(k:Int))=((2*k:Nat):Int):=mulI (a:=2) (b:=k) (by omega)
 have a4:decide ((m:Int)≤((2*k:Nat):Int))=false:=leF (by omega)
 have a5:=incI (i:=k) (by omega)
 have a6:=subI (a:=n) (b:=2*k) (by omega) (by omega)
 have a7:=subI (a:=m) (b:=2*k) (by omega) (by omega)
 simp only[go_sem,q0,q1,q2,q3,a1,a2,a3,a4,g1,g2,g3]
 refine⟨by omega, ?_⟩
 refine Enter_calls ht (by omega) fun _ h1 hw1 hl1 hn1 ht1=> ?_
 simp only[go_sem,q0,q1,q2,q3,a1,a2,a3,a4,a5,a6,a7]
 refine Points_calls (nv.monoE ht hl1) (by omega) (by omega) (by omega) fun A0 A1 Am A2 Ai α0 α1 α2 h2 hw2 hl2 ex lα0 lα1 lα2 nA0 nA1 nAm nA2 nAi=> ?_
 have s0:=PSt.five (l:=[AV.sl none 0 0 none, .bool false]) hw2
 simp only[go_sem,q0,q1,q2,q3,a1,a2,a3,a4,a5,a6,a7,H.next_new]
 simp only[Nat.add_assoc,Nat.reduceAdd]
 have hn02:h0.next≤h2.next:=(hl1.trans hl2.lee).1
 have hno:∀i,h2.rows (h2.next+i)=none:=fun i=>hw2 _ (by omega)
 refine s0.st2 (v:=A0) (w:= .bool false) (i:=0) hw2 (Nat.le_refl _) (by omega) (hno 0) rfl nA0.one rfl fun i1 s1 _=> ?_
 simp only[go_sem]
 refine s1.st2 (v:=A1) (w:= .bool false) (i:=1) hw2 (Nat.le_refl _) (by omega) (hno 1) rfl nA1.one rfl fun i2 s2 _=> ?_
 simp only[go_sem]
 refine s2.st2 (v:=Am) (w:= .bool (decide (α0+α2<α1))) (i:=2) hw2 (Nat.le_refl _) (by omega) (hno 2) rfl nAm.one rfl fun i3 s3 _=> ?_
 simp only[go_sem]
 refine s3.st2 (v:=A2) (w:= .bool false) (i:=3) hw2 (Nat.le_refl _) (by omega) (hno 3) rfl nA2.one rfl fun i4 s4 _=> ?_
 simp only[go_sem]
 refine s4.st2 (v:=Ai) (w:= .bool false) (i:=4) hw2 (Nat.le_refl _) (by omega) (hno 4) rfl nAi.one rfl fun i5 s5 _=> ?_
 have l5:h2.le i5:=s5.le
 simp only[go_sem,q0,q1,q2,q3,a1,a2,a3,a4,a5,a6,a7]
 have nu5:=(nu.monoE ht hl1).mono (H.le_trans hl2 l5)
 refine Points_calls nu5 (by omega) (by omega) (by omega) fun B0 B1 Bm B2 Bi β0 β1 β2 h3 hw3 hl3 ey lβ0 lβ1 lβ2 nB0 nB1 nBm nB2 nBi=> ?_
 have t0:=PSt.five (l:=[AV.sl none 0 0 none, .bool false]) hw3
 simp only[go_sem,q0,q1,q2,q3,a1,a2,a3,a4,a5,a6,a7,H.next_new]
 simp only[Nat.add_assoc,Nat.reduceAdd]
 have hno3:∀i,h3.rows (h3.next+i)=none:=fun i=>hw3 _ (by omega)
 refine t0.st2 (v:=B0) (w:= .bool false) (i:=0) hw3 (Nat.le_refl _) (by omega) (hno3 0) rfl nB0.one rfl fun j1 t1 _=> ?_
 simp only[go_sem]
 refine t1.st2 (v:=B1) (w:= .bool false) (i:=1) hw3 (Nat.le_refl _) (by omega) (hno3 1) rfl nB1.one rfl fun j2 t2 _=> ?_
 simp only[go_sem]
 refine t2.st2 (v:=Bm) (w:= .bool (decide (β0+β2<β1))) (i:=2) hw3 (Nat.le_refl _) (by omega) (hno3 2) rfl nBm.one rfl fun j3 t3 _=> ?_
 simp only[go_sem]
 refine t3.st2 (v:=B2) (w:= .bool false) (i:=3) hw3 (Nat.le_refl _) (by omega) (hno3 3) rfl nB2.one rfl fun j4 t4 _=> ?_
 simp only[go_sem]
 refine t4.st2 (v:=Bi) (w:= .bool false) (i:=4) hw3 (Nat.le_refl _) (by omega) (hno3 4) rfl nBi.one rfl fun j5 t5 _=> ?_
 have l35:h3.le j5:=t5.le
 have lij:i5.le j5:=(H.le_trans hl3 l35)
 have l2j:h2.le j5:=(H.le_trans l5 (H.le_trans hl3 l35))
 have l0j:H.lee e3 h0 j5:=hl1.trans (H.le_trans hl2 l2j).lee
 have tj:Tune j5 e3 m0 (nw+1) (max dp (nw+1)) t:=ht1.mono (H.le_trans hl2 l2j)
 have hu1:e3<h1.next:=Nat.lt_of_lt_of_le hul hl1.1
 have hu2:e3<h2.next:=Nat.lt_of_lt_of_le hu1 hl2.1
 have hui:e3<i5.next:=Nat.lt_of_lt_of_le hu2 l5.1
 have hu3:e3<h3.next:=Nat.lt_of_lt_of_le hui hl3.1
 rw[show α0+α2+α1=α0+α1+α2 by omega] at nA1
 rw[show β0+β2+β1=β0+β1+β2 by omega] at nB1
 have fa:=fun(i j:Nat) (g:H) (hi:i<5) (hl:H.lee e3 j5 g)=>s5.getE (i:=i) (j:=j) hi hu2 (lij.lee.trans hl)
 have fb:=fun(i j:Nat) (g:H) (hi:i<5) (hl:H.lee e3 j5 g)=>t5.getE (i:=i) (j:=j) hi hu3 hl
 have na:∀{v:AV} {z:Nat} {g:H},Nf h1.next h2 v z→H.lee e3 j5 g→Nt g v z:=fun hn hl=>(hn.monoE hu1 (l2j.lee.trans hl)).nt
 have nb:∀{v:AV} {z:Nat} {g:H},Nf i5.next h3 v z→H.lee e3 j5 g→Nt g v z:=fun hn hl=>(hn.monoE hui (l35.lee.trans hl)).nt
 have pk:18446744073709551616^(k+1)=18446744073709551616^k*18446744073709551616:=Nat.pow_succ ..
 have pn:18446744073709551616^(n-2*k)≤18446744073709551616^k:=Nat.pow_le_pow_right (by omega) (by omega)
 have pm:18446744073709551616^(m-2*k)≤18446744073709551616^k:=Nat.pow_le_pow_right (by omega) (by omega)
 have am:am1 (α0+α2) α1≤α0+α2+α1:=am1_le
 have bm:am1 (β0+β2) β1≤β0+β2+β1:=am1_le
 clear s0 s1 s2 s3 s4 t0 t1 t2 t3 t4 hno hno3
 simp only[go_sem,q0,q1,q2,q3,a1,a2,a3,a4,a5,a6,a7,show j5.get (h2.next) 0=some A0 from fa 0 0 j5 (by omega) (H.lee_refl e3 j5),show j5.get (h3.next) 0=some B0 from fb 0 0 j5 (by omega) (H.lee_refl e3 j5)]
 refine twide_calls (n:=k) (na nA0 (H.lee_refl e3 j5)) (by omega) (by omega) fun WA0 Y0 hwy0 hly0 pA0=> ?_
 have ly0:=(H.lee_refl e3 j5).trans hly0.lee
 simp only[go_sem,q0,q1,q2,q3,a1,a2,a3,a4,a5,a6,a7,show Y0.get (h2.next) 0=some A0 from fa 0 0 Y0 (by omega) ly0,show Y0.get (h3.next) 0=some B0 from fb 0 0 Y0 (by omega) ly0,true_and]
 refine twide_calls (n:=k) (nb nB0 ly0) (by omega) (by omega) fun WB0 z0 hwz0 hlz0 pB0=> ?_
 have lz0:=ly0.trans hlz0.lee
 have tz0:=tj.mono (H.le_trans hly0 hlz0)
 simp only[go_sem,q0,q1,q2,q3,a1,a2,a3,a4,a5,a6,a7]
 refine hin z0 _ _ _ _ _ _ _ _ _ _ (l0j.trans lz0) tz0 (pA0.wn.mono hlz0) pB0.wn (by omega) (by omega) (by omega) fun R0 X0 m0 d0 hwx0 hlx0 tx0 sp0 nR0=> ?_
 have lx0:=lz0.trans hlx0
 simp only[go_sem,q0,q1,q2,q3,a1,a2,a3,a4,a5,a6,a7,show X0.get (h2.next+1) 0=some A1 from fa 1 0 X0 (by omega) lx0,show X0.get (h3.next+1) 0=some B1 from fb 1 0 X0 (by omega) lx0]
 refine twide_calls (n:=k+1) (na nA1 lx0) (by omega) (by omega) fun WA1 Y1 hwy1 hly1 pA1=> ?_
 have ly1:=lx0.trans hly1.lee
 simp only[go_sem,q0,q1,q2,q3,a1,a2,a3,a4,a5,a6,a7,show Y1.get (h2.next+1) 0=some A1 from fa 1 0 Y1 (by omega) ly1,show Y1.get (h3.next+1) 0=some B1 from fb 1 0 Y1 (by omega) ly1,true_and]
 refine twide_calls (n:=k+1) (nb nB1 ly1) (by omega) (by omega) fun WB1 z1 hwz1 hlz1 pB1=> ?_
 have lz1:=ly1.trans hlz1.lee
 have tz1:=tx0.mono (H.le_trans hly1 hlz1)
 simp only[go_sem,q0,q1,q2,q3,a1,a2,a3,a4,a5,a6,a7]
 refine hin z1 _ _ _ _ _ _ _ _ _ _ (l0j.trans lz1) tz1 (pA1.wn.mono hlz1) pB1.wn (by omega) (by omega) (by omega) fun R1 X1 m1 d1 hwx1 hlx1 tx1 sp1 nR1=> ?_
 have lx1:=lz1.trans hlx1
 simp only[go_sem,q0,q1,q2,q3,a1,a2,a3,a4,a5,a6,a7,show X1.get (h2.next+2) 0=some Am from fa 2 0 X1 (by omega) lx1,show X1.get (h3.next+2) 0=some Bm from fb 2 0 X1 (by omega) lx1]
 refine twide_calls (n:=k+1) (na nAm lx1) (by omega) (by omega) fun WAm Y2 hwy2 hly2 pAm=> ?_
 have ly2:=lx1.trans hly2.lee
 simp only[go_sem,q0,q1,q2,q3,a1,a2,a3,a4,a5,a6,a7,show Y2.get (h2.next+2) 0=some Am from fa 2 0 Y2 (by omega) ly2,show Y2.get (h3.next+2) 0=some Bm from fb 2 0 Y2 (by omega) ly2,true_and]
 refine twide_calls (n:=k+1) (nb nBm ly2) (by omega) (by omega) fun WBm z2 hwz2 hlz2 pBm=> ?_
 have lz2:=ly2.trans hlz2.lee
 have tz2:=tx1.mono (H.le_trans hly2 hlz2)
 simp only[go_sem,q0,q1,q2,q3,a1,a2,a3,a4,a5,a6,a7]
 refine hin z2 _ _ _ _ _ _ _ _ _ _ (l0j.trans lz2) tz2 (pAm.wn.mono hlz2) pBm.wn (by omega) (by omega) (by omega) fun Rm X2 m2 d2 hwx2 hlx2 tx2 sp2 nRm=> ?_
 have lx2:=lz2.trans hlx2
 simp only[go_sem,q0,q1,q2,q3,a1,a2,a3,a4,a5,a6,a7,show X2.get (h2.next+3) 0=some A2 from fa 3 0 X2 (by omega) lx2,show X2.get (h3.next+3) 0=some B2 from fb 3 0 X2 (by omega) lx2]
 refine twide_calls (n:=k+1) (na nA2 lx2) (by omega) (by omega) fun WA2 Y3 hwy3 hly3 pA2=> ?_
 have ly3:=lx2.trans hly3.lee
 simp only[go_sem,q0,q1,q2,q3,a1,a2,a3,a4,a5,a6,a7,show Y3.get (h2.next+3) 0=some A2 from fa 3 0 Y3 (by omega) ly3,show Y3.get (h3.next+3) 0=some B2 from fb 3 0 Y3 (by omega) ly3,true_and]
 refine twide_calls (n:=k+1) (nb nB2 ly3) (by omega) (by omega) fun WB2 z3 hwz3 hlz3 pB2=> ?_
 have lz3:=ly3.trans hlz3.lee
 have tz3:=tx2.mono (H.le_trans hly3 hlz3)
 simp only[go_sem,q0,q1,q2,q3,a1,a2,a3,a4,a5,a6,a7]
 refine hin z3 _ _ _ _ _ _ _ _ _ _ (l0j.trans lz3) tz3 (pA2.wn.mono hlz3) pB2.wn (by omega) (by omega) (by omega) fun R2 X3 m3 d3 hwx3 hlx3 tx3 sp3 nR2=> ?_
 have lx3:=lz3.trans hlx3
 simp only[go_sem,q0,q1,q2,q3,a1,a2,a3,a4,a5,a6,a7,show X3.get (h2.next+4) 0=some Ai from fa 4 0 X3 (by omega) lx3,show X3.get (h3.next+4) 0=some Bi from fb 4 0 X3 (by omega) lx3]
 refine twide_calls (n:=n-2*k) (na nAi lx3) (by omega) (by omega) fun WAi Y4 hwy4 hly4 pAi=> ?_
 have ly4:=lx3.trans hly4.lee
 simp only[go_sem,q0,q1,q2,q3,a1,a2,a3,a4,a5,a6,a7,show Y4.get (h2.next+4) 0=some Ai from fa 4 0 Y4 (by omega) ly4,show Y4.get (h3.next+4) 0=some Bi from fb 4 0 Y4 (by omega) ly4,true_and]
 refine twide_calls (n:=m-2*k) (nb nBi ly4) (by omega) (by omega) fun WBi z4 hwz4 hlz4 pBi=> ?_
 have lz4:=ly4.trans hlz4.lee
 have tz4:=tx3.mono (H.le_trans hly4 hlz4)
 simp only[go_sem,q0,q1,q2,q3,a1,a2,a3,a4,a5,a6,a7]
 refine hin z4 _ _ _ _ _ _ _ _ _ _ (l0j.trans lz4) tz4 (pAi.wn.mono hlz4) pBi.wn (by omega) (by omega) (by omega) fun Ri X4 m4 d4 hwx4 hlx4 tx4 sp4 nRi=> ?_
 have lx4:=lz4.trans hlx4
 have l05:=l0j.trans lx4
 simp only[go_sem,q0,q1,q2,q3,a1,a2,a3,a4,a5,a6,a7,G1 _ l05,G2 _ l05,G3 _ l05]
 refine Leave_calls tx4 (by omega) fun _ X hwX hlX hnX tX=> ?_
 have lX:=lx4.trans hlX
 have b0:e3<z0.next:=Nat.lt_of_lt_of_le hu3 (H.le.lee (u:=e3) l35|>.trans lz0).1
 have b1:e3<z1.next:=Nat.lt_of_lt_of_le hu3 (H.le.lee (u:=e3) l35|>.trans lz1).1
 have b2:e3<z2.next:=Nat.lt_of_lt_of_le hu3 (H.le.lee (u:=e3) l35|>.trans lz2).1
 have b3:e3<z3.next:=Nat.lt_of_lt_of_le hu3 (H.le.lee (u:=e3) l35|>.trans lz3).1
 have b4:e3<z4.next:=Nat.lt_of_lt_of_le hu3 (H.le.lee (u:=e3) l35|>.trans lz4).1
 have c4:=hlX
 have c3:H.lee e3 X3 X:=(H.le_trans hly4 hlz4).lee.trans (hlx4.trans c4)
 have c2:H.lee e3 X2 X:=(H.le_trans hly3 hlz3).lee.trans (hlx3.trans c3)
 have c1:H.lee e3 X1 X:=(H.le_trans hly2 hlz2).lee.trans (hlx2.trans c2)
 have c0:H.lee e3 X0 X:=(H.le_trans hly1 hlz1).lee.trans (hlx1.trans c1)
 have nR0:=(nR0.monoE b0 c0).nt
 have nR1:=(nR1.monoE b1 c1).nt
 have nRm:=(nRm.monoE b2 c2).nt
 have nR2:=(nR2.monoE b3 c3).nt
 have nRi:=(nRi.monoE b4 c4).nt
 have five:=five_of (a0:=α0) (a1:=α1) (a2:=α2) (b0:=β0) (b1:=β1) (b2:=β2)
 have p2k:18446744073709551616^(k+1)*18446744073709551616^(k+1)=18446744073709551616^(2*k+2):=by rw[←Nat.pow_add];congr 1;omega
 have g1:(α0+α1+α2)*(β0+β1+β2)<18446744073709551616^(2*k+2):=by
  rw[←p2k]
  exact Nat.mul_lt_mul_of_lt_of_le (by omega) (by omega) (Nat.pow_pos (by omega))
 have g2:(α0+2*α1+4*α2)*(β0+2*β1+4*β2)<18446744073709551616^(2*k+2):=by
  rw[←p2k]
  exact Nat.mul_lt_mul_of_lt_of_le (by omega) (by omega) (Nat.pow_pos (by omega))
 have bR:∀{z:Nat},z<18446744073709551616^(2*k+2)→Big z:=fun hz=>lt_bigW hz (by omega)
 have gm:am1 (α0+α2) α1*am1 (β0+β2) β1<18446744073709551616^(2*k+2):=by
  rw[←p2k]
  exact Nat.mul_lt_mul_of_lt_of_le (by omega) (by omega) (Nat.pow_pos (by omega))
 have g0:α0*β0<18446744073709551616^(2*k+2):=by
  rw[←p2k]
  exact Nat.mul_lt_mul_of_lt_of_le (by omega) (by omega) (Nat.pow_pos (by omega))
 have gi:α2*β2<18446744073709551616^(2*k+2):=by
  rw[←p2k]
  exact Nat.mul_lt_mul_of_lt_of_le (by omega) (by omega) (Nat.pow_pos (by omega))
 simp only[go_sem,q0,q1,q2,q3,a1,a2,a3,a4,a5,a6,a7,show X.get (h2.next+2) 1=some (.bool (decide (α0+α2<α1))) from fa 2 1 X (by omega) lX,show X.get (h3.next+2) 1=some (.bool (decide (β0+β2<β1))) from fb 2 1 X (by omega) lX]
 refine joined_calls (k:=k) (by omega) five (nR0.nn (bR g0)) (nR1.nn (bR g1)) (nRm.nn (bR gm)) (nR2.nn (bR g2)) (nRi.nn (bR gi)) (κ:=2*k+2) (by omega) g1 g2 fun r Y hwY hlY hr=> ?_
 have ev:val (18446744073709551616^k) [α0*β0,α0*β1+α1*β0,α0*β2+α1*β1+α2*β0,α1*β2+α2*β1,α2*β2]=x1*y1:=by
  rw[ex,ey,toom_val]
  simp only[val]
  generalize 18446744073709551616^k=X
  grind
 rw[ev] at hr
 simp only[go_sem]
 refine fun _=>hk r Y _ _ hwY (l05.trans (hlX.trans hlY.lee)) (tX.mono hlY) ?_ (hr.base (l05.trans hlX).1)
 exact(((((sp0.trans sp1).trans sp2).trans sp3).trans sp4).le (by omega) (by omega)).deep
end Ab
end Go.Proofs.YtkbglkjpdndkiaaGreatDoor
