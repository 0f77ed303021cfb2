/- Joined texts: L2 L3 H6 C6 M7 G2 M11 M12 V1 V2 P2 P3 P6 R16 T1 T3 U1 U4 U7 I1. No condition. -/
import Derived.Test.YtkbglkjpdndkiaaZ6
import Derived.WalkKit
import Derived.ProofKit
import Derived.OpenShut
import Derived.ChangeSame
import Derived.Carry
import Derived.Deep.Slices
import Derived.Test.YtkbglkjpdndkiaaProg
import Derived.KernelRfl
namespace Go.Proofs.Ytkbglkjpdndkiaa
namespace Ab
open Go Go.RowKit
set_option linter.unusedSimpArgs false
set_option linter.unusedVariables false
attribute [local go_sem ↓] x_mv x_pick x_bin x_beq x_peq x_seq x_cat x_aeq x_idxS x_idxV x_un x_cvI x_bts x_idx x_idxA x_fld x_ld x_st x_nn x_prt x_slc x_mk x_bsl x_bld x_box x_alloc x_len x_capo x_mnx x_app x_cpy x_mkf x_ext x_call x_callV x_bad s_none s_some s_nil s_cons s_chks w_skip w_reg tP_fin tP_no tP_alt w_seq w_cond w_block w_exit w_ret t_normal t_exit t_ret b_normal b_ret b_exit n_normal n_exit n_ret p_normal p_ret f_nil f_t f_c k_ops k_chk k_fin
attribute [local go_sem] e_t e_c e_f u_some u_none u_at env_at k_v k_pick k_add k_sub k_mul k_quo k_rem k_and k_or k_xor k_shl k_shr k_eql k_neq k_lss k_leq k_gtr k_geq k_beq k_peqn k_peqs k_neg k_not k_com k_cvI k_idxS k_idxV1 k_idxVn k_idx k_idxA k_idxG k_ldG k_gld k_seq k_cat k_aeq k_eqs k_fld k_ld1 k_ldn k_get k_gets k_sti k_stb k_stp k_sts k_stf k_sta k_put k_nn k_prt1 k_prtn k_slc_a k_slc_b k_slc_c k_mk k_agg k_bsl k_box k_len k_lenS k_cap k_max k_min k_ext k_callV k_true k_false k_gtt k_gtf k_gft k_gsk k_gff k_lit1i k_lit2i k_lit3i k_c0 k_c1 k_ck List.getElem?_cons_zero List.getElem?_cons_succ List.getElem?_nil Option.getD_some Option.getD_none tupOf List.map_cons List.map_nil Option.map_some Option.map_none List.nil_append List.cons_append List.append_nil Nat.mul_one Int.toNat_natCast Nat.zero_add
attribute [local go_sem] e_t e_c e_f u_some u_none u_at env_at k_v k_pick k_add k_sub k_mul k_quo k_rem k_and k_or k_xor k_shl k_shr k_eql k_neq k_lss k_leq k_gtr k_geq k_beq k_peqn k_peqs k_neg k_not k_com k_cvI k_idxS k_idxV1 k_idxVn k_idx k_idxA k_idxG k_ldG k_gld k_seq k_cat k_aeq k_eqs k_fld k_ld1 k_ldn k_get k_gets k_sti k_stb k_stp k_sts k_stf k_sta k_put k_nn k_prt1 k_prtn k_slc_a k_slc_b k_slc_c k_mk k_agg k_bsl k_box k_len k_lenS k_cap k_max k_min k_ext k_callV k_true k_false k_gtt k_gtf k_gft k_gsk k_gff k_lit1i k_lit2i k_lit3i k_c0 k_c1 k_ck List.getElem?_cons_zero List.getElem?_cons_succ List.getElem?_nil Option.getD_some Option.getD_none tupOf List.map_cons List.map_nil Option.map_some Option.map_none List.nil_append List.cons_append List.append_nil Nat.mul_one Int.toNat_natCast Nat.zero_add
--what a store into a cell of two leaves
attribute [local go_sem_proc] Nat.reduceEqDiff Nat.reduceAdd Int.reduceToNat
attribute [local go_sem_proc ↓] reduceIte
attribute [local go_sem] Bool.false_eq_true
section
open Go Go.RowKit Go.WideShapes Go.ChangeShapes Go.ChangeAt
inductive Reads (P:Program) (h:H):TypeId→List AV→Prop
 |int {t:TypeId} {k:IntKind} {n:Int} (ht:P.underlying t=some (.int k)) (hw:(Lit.int k n).wf=true):Reads P h t [.int k n]
 |bool {t:TypeId} {b:Bool} (ht:P.underlying t=some .bool):Reads P h t [.bool b]
 |str {t:TypeId} {s:ByteArray} (ht:P.underlying t=some .string) (hs:s.size≤maxLen):Reads P h t [.str s]
 |snil {t e:TypeId} (ht:P.underlying t=some (.slice e)):Reads P h t [.sl none 0 0 none]
 |sl {t e:TypeId} {id len:Nat} {r:Row} (ht:P.underlying t=some (.slice e)) (hr:h.rows id=some r) (ho:r.own=none) (hlen:len≤maxLen) (hl:r.cells.length=len*P.cellsOf e)
   (he:∀i,i<len→Reads P h e ((r.cells.drop (i*P.cellsOf e)).take (P.cellsOf e))):Reads P h t [.sl (some id) 0 len none]
 |struct {t:TypeId} {fs:Array Field} {l:List AV} (ht:P.underlying t=some (.struct fs)) (hl:l.length=P.cellsOf t)
   (hf:∀f∈fs.toList,Reads P h f.type ((l.drop f.offset).take (P.cellsOf f.type))):Reads P h t l
theorem Reads.mono {P:Program} {h h':H} (hl:h.le h') {t:TypeId} {l:List AV} (r:Reads P h t l):Reads P h' t l:=by
 induction r with
 |int ht hw=>exact .int ht hw
 |bool ht=>exact .bool ht
 |str ht hs=>exact .str ht hs
 |snil ht=>exact .snil ht
 |sl ht hr ho hlen hl' _ ih=>exact .sl ht (hl.2 _ _ hr) ho hlen hl' ih
 |struct ht hl' _ ih=>exact .struct ht hl' ih
def ReadsV (P:Program) (h:H) (t:TypeId) (u:AV):Prop:=
 match P.underlying t with
 |some (.struct _)=>∃l,u= .agg l∧Reads P h t l
 |_=>Reads P h t [u]
theorem ReadsV.mono {P:Program} {h h':H} (hl:h.le h') {t:TypeId} {u:AV} (r:ReadsV P h t u):ReadsV P h' t u:=by
 unfold ReadsV at*
 split at r
 ·obtain⟨l,e,r⟩:=r;exact⟨l,e,r.mono hl⟩
 ·exact r.mono hl
def plainB (P:Program):Nat→TypeId→Bool
 |0,_=>false
 |d+1,t=>match P.underlying t with
  |some .bool=>true
  |some (.int _)=>true
  |some .string=>true
  |some (.slice e)=>decide (0<P.cellsOf e)&&plainB P d e
  |some (.struct fs)=>fs.toList.all (fun f=>plainB P d f.type)&&P.cellsOf t==(fs.toList.map fun f=>P.cellsOf f.type).sum&&
    (List.range fs.toList.length).all fun j=>match fs.toList[j]? with|some f=>f.offset==((fs.toList.take j).map fun f=>P.cellsOf f.type).sum|none=>true
  |_=>false
section
variable {H':Type} {enc:TypeId×Value→H'} {P:Program} {w:World}
theorem cells_get {base:Nat} {a:Addr} {n:Nat} {cs:List Value} (h:w.cells? base a n=some cs):cs.length=n∧∀i v,cs[i]? =some v→w.cell? (a.add i)=some v:=by
 unfold World.cells? at h
 split at h
 ·refine⟨by simpa using mapM_some_length h,fun i v hv=> ?_⟩
  have hi:i<n:=by
   have:=mapM_some_length h
   have h2:=(List.getElem?_eq_some_iff.1 hv).1
   simp at this
   omega
  rw[mapM_some_get h i i (by simp[hi]),hv]
 ·cases h
theorem cell_block {a:Addr} {v:Value} (h:w.cell? a=some v):a.block<w.heap.size:=by
 unfold World.cell? at h
 split at h
 ·rename_i c _ _ e
  exact(Array.getElem?_eq_some_iff.1 e).1
 ·cases h
theorem Rep.note {base:Nat} {w0:World} {μ:Mu} {h:H} (R:Rep base w0 μ w h) {a:Addr} {z:Nat} {l:List AV} (ha:a.block<base) (hl:∀(j:Nat) (u:AV),l[j]? =some u→∃v,w.cell? (a.add j)=some v∧Rel μ u v):
  μ.le (μ.put h.next ⟨a,z,none⟩)∧Rep base w0 (μ.put h.next ⟨a,z,none⟩) w (h.new ⟨none,z,l⟩):=by
 have hfree:=R.free h.next (Nat.le_refl _)
 have hle:=Mu.le_put hfree (⟨a,z,none⟩:Pl)
 refine⟨hle,R.below,R.size,R.glob,fun id hid=> ?_,fun id r hr=> ?_,fun id id' r r' p p' hr hr' ho ho' hp hp'=> ?_⟩
 ·simp only[H.new] at hid
  simp only[Mu.put]
  rw[if_neg (by omega)]
  exact R.free id (by omega)
 ·simp only[H.new] at hr
  split at hr
  ·rename_i e
   injection hr with hr
   subst hr
   subst e
   exact⟨⟨a,z,none⟩,by simp[Mu.put],ha,rfl,fun j u hu=>by
    obtain⟨v,h1,h2⟩:=hl j u hu
    exact⟨v,h1,h2.mono hle⟩⟩
  ·obtain⟨p,hp,hR⟩:=R.row id r hr
   exact⟨p,hle _ _ hp,hR.mono hle⟩
 ·have old:∀{i:Nat} {r:Row} {p:Pl},(h.new ⟨none,z,l⟩).rows i=some r→r.own≠none→(μ.put h.next ⟨a,z,none⟩) i=some p→h.rows i=some r∧μ i=some p:=by
   intro i r p hr ho hp
   simp only[H.new] at hr
   split at hr
   ·injection hr with hr
    subst hr
    exact absurd rfl ho
   ·rename_i e
    simp only[Mu.put] at hp
    rw[if_neg e] at hp
    exact⟨hr,hp⟩
  obtain⟨a1,a2⟩:=old hr ho hp
  obtain⟨b1,b2⟩:=old hr' ho' hp'
  exact R.apart id id' r r' p p' a1 b1 ho ho' a2 b2
theorem sum_take_succ {α:Type} (l:List α) (g:α→Nat) (j:Nat) (x:α) (h:l[j]? =some x):((l.take (j+1)).map g).sum=((l.take j).map g).sum+g x:=by
 obtain⟨hj,rfl⟩:=List.getElem?_eq_some_iff.1 h
 rw[List.take_succ_eq_append_getElem hj,List.map_append,List.sum_append]
 simp
theorem absorb (base:Nat):∀(n d:Nat) (t:TypeId) (cs:List Value) (x:DataW H'×List MemPlace) (μ:Mu) (h:H),plainB P d t=true→DataW.trod enc P w base (fun _=>true) true n t cs=some x→
  Rep w.heap.size w μ w h→∃μ' h' l,μ.le μ'∧h.le h'∧Rep w.heap.size w μ' w h'∧RelA μ' l cs∧Reads P h' t l:=by
 intro n
 induction n with
 |zero=>intro d t cs x μ h _ hx;simp[DataW.trod] at hx
 |succ n ih=>
  intro d t cs x μ h hp hx R
  cases d with
  |zero=>simp[plainB] at hp
  |succ d=>
   rw[DataW.trod_step] at hx
   unfold DataW.trodStep at hx
   unfold plainB at hp
   split at hx
   case h_1 b ht=>exact⟨μ,h,[.bool b],μ.le_refl,H.le_refl h,R,(RelA.nil μ).cons (.bool b), .bool ht⟩
   case h_2 k k' m ht=>
    split at hx
    ·rename_i hc
     obtain⟨rfl,hw⟩:=hc
     exact⟨μ,h,[.int k' m],μ.le_refl,H.le_refl h,R,(RelA.nil μ).cons (.int k' m), .int ht hw⟩
    ·cases hx
   case h_4 s ht=>
    split at hx
    ·rename_i hc
     exact⟨μ,h,[.str s],μ.le_refl,H.le_refl h,R,(RelA.nil μ).cons (.str s), .str ht hc⟩
    ·cases hx
   case h_7 e ht=>exact⟨μ,h,[.sl none 0 0 none],μ.le_refl,H.le_refl h,R,(RelA.nil μ).cons (.snil (fun x hx=>by cases hx)), .snil ht⟩
   case h_8 e a len cap ht=>
    rw[ht] at hp
    simp only[Bool.and_eq_true,decide_eq_true_eq] at hp
    obtain⟨hpos,hpe⟩:=hp
    simp only at hx
    split at hx
    ·rename_i hc
     simp only[Option.map_eq_some_iff,Option.bind_eq_some_iff,if_true] at hx
     obtain⟨elems,he,rest,hrest,rfl⟩:=hx
     rcases Nat.eq_zero_or_pos cap with hc0|hc0
     ·have hl0:len=0:=by omega
      subst hc0;subst hl0
      exact⟨μ,h,[.sl none 0 0 none],μ.le_refl,H.le_refl h,R,(RelA.nil μ).cons (.snil (fun x hx=>by cases hx)), .snil ht⟩
     ·--the block is there
      have hblk:a.block<w.heap.size:=by
       rcases Nat.eq_zero_or_pos len with hl0|hl0
       ·subst hl0
        have h0:=mapM_some_get hrest 0 0 (List.getElem?_range (by omega))
        have hne:=mapM_some_length hrest
        rw[List.length_range] at hne
        obtain⟨y,hy⟩:∃y,rest[0]? =some y:=⟨_,List.getElem?_eq_getElem (by omega)⟩
        rw[hy] at h0
        simp only[Option.bind_eq_some_iff] at h0
        obtain⟨cs',hcs,_⟩:=h0
        obtain⟨h1,h2⟩:=cells_get hcs
        have:=cell_block (h2 0 _ (List.getElem?_eq_getElem (by omega)))
        simpa [block_add] using this
       ·have h0:=mapM_some_get he 0 0 (List.getElem?_range (by omega))
        have hne:=mapM_some_length he
        rw[List.length_range] at hne
        obtain⟨y,hy⟩:∃y,elems[0]? =some y:=⟨_,List.getElem?_eq_getElem (by omega)⟩
        rw[hy] at h0
        simp only[Option.bind_eq_some_iff] at h0
        obtain⟨cs',hcs,_⟩:=h0
        obtain⟨h1,h2⟩:=cells_get hcs
        have:=cell_block (h2 0 _ (List.getElem?_eq_getElem (by omega)))
        simpa [block_add] using this
      --the elements,one after the other
      have step:∀m,m≤len→∃(μ':Mu) (h':H) (l:List AV),μ.le μ'∧h.le h'∧Rep w.heap.size w μ' w h'∧l.length=m*P.cellsOf e∧(∀(j:Nat) (u:AV),l[j]? =some u→∃v,w.cell? (a.add j)=some v∧Rel μ' u v)∧
        ∀i,i<m→Reads P h' e ((l.drop (i*P.cellsOf e)).take (P.cellsOf e)):=by
       intro m
       induction m with
       |zero=>exact fun _=>⟨μ,h,[],μ.le_refl,H.le_refl h,R,by simp,fun j u hu=>by simp at hu,fun i hi=>by omega⟩
       |succ m ihm=>
        intro hm
        obtain⟨μ1,h1,l1,q1,q2,q3,q4,q5,q6⟩:=ihm (by omega)
        have hne:=mapM_some_length he
        rw[List.length_range] at hne
        have h0:=mapM_some_get he m m (List.getElem?_range (by omega))
        rw[List.getElem?_eq_getElem (show m<elems.length by omega)] at h0
        simp only[Option.bind_eq_some_iff] at h0
        obtain⟨cs',hcs,hy⟩:=h0
        obtain⟨g1,g2⟩:=cells_get hcs
        obtain⟨μ2,h2,l2,r1,r2,r3,r4,r5⟩:=ih d e cs' _ μ1 h1 hpe hy q3
        have hl2:l2.length=P.cellsOf e:=by rw[r4.1,g1]
        refine⟨μ2,h2,l1++l2,Mu.le_trans q1 r1,H.le_trans q2 r2,r3,by rw[List.length_append,q4,hl2,Nat.succ_mul],fun j u hu=> ?_,fun i hi=> ?_⟩
        ·rcases Nat.lt_or_ge j l1.length with hj|hj
         ·rw[List.getElem?_append_left hj] at hu
          obtain⟨v,e1,e2⟩:=q5 j u hu
          exact⟨v,e1,e2.mono r1⟩
         ·rw[List.getElem?_append_right hj] at hu
          have hj2:j-l1.length<cs'.length:=by
           have:=(List.getElem?_eq_some_iff.1 hu).1
           omega
          refine⟨cs'[j-l1.length], ?_,r4.2 _ _ _ hu (List.getElem?_eq_getElem hj2)⟩
          have:=g2 _ _ (List.getElem?_eq_getElem hj2)
          rw[add_add,←q4] at this
          rwa[show l1.length+(j-l1.length)=j from by omega] at this
        ·rcases Nat.lt_or_ge i m with hi2|hi2
         ·have:=(q6 i hi2).mono r2
          have hfit:i*P.cellsOf e+P.cellsOf e≤l1.length:=by
           rw[q4,←Nat.succ_mul]
           exact Nat.mul_le_mul_right _ hi2
          rw[List.drop_append_of_le_length (by omega),List.take_append_of_le_length (by simp;omega)]
          exact this
         ·have:i=m:=by omega
          subst this
          rw[←q4,List.drop_left,←hl2,List.take_length]
          exact r5
      obtain⟨μ1,h1,l,q1,q2,q3,q4,q5,q6⟩:=step len (Nat.le_refl _)
      obtain⟨s1,s2⟩:=q3.note (z:=P.cellsOf e) hblk q5
      have hw1:=q3.wf
      refine⟨_,_,[.sl (some h1.next) 0 len none],Mu.le_trans q1 s1,H.le_trans q2 (H.le_new hw1 (H.le_refl h1) _),s2,(RelA.nil _).cons ?_, ?_⟩
      ·exact Rel.sl (p:=⟨a,P.cellsOf e,none⟩) (by simp[Mu.put]) (.inr (by simp[Addr.add])) hc.2.1 (fun x hx=>by cases hx) (fun T hT=>by cases hT)
      ·exact .sl ht (H.rows_new _ _) rfl (Nat.le_trans hc.2.1 hc.2.2) q4 (fun i hi=>(q6 i hi).mono (H.le_new hw1 (H.le_refl h1) _))
    ·cases hx
   case h_9=>
    rename_i cs _ _ fs ht
    rw[ht] at hp
    simp only[Bool.and_eq_true,beq_iff_eq,List.all_eq_true] at hp
    obtain⟨⟨hpf,hsum⟩,hoff⟩:=hp
    split at hx
    ·rename_i hc
     simp only[Option.map_eq_some_iff] at hx
     obtain⟨xs,hm,rfl⟩:=hx
     have off:∀j f,fs.toList[j]? =some f→f.offset=((fs.toList.take j).map fun f=>P.cellsOf f.type).sum:=by
      intro j f hf
      have hj:=(List.getElem?_eq_some_iff.1 hf).1
      have:=hoff j (List.mem_range.2 hj)
      rw[hf] at this
      simpa using this
     have step:∀m,m≤fs.toList.length→∃(μ':Mu) (h':H) (l:List AV),μ.le μ'∧h.le h'∧Rep w.heap.size w μ' w h'∧l.length=((fs.toList.take m).map fun f=>P.cellsOf f.type).sum∧RelA μ' l (cs.take ((fs.toList.take m).map fun f=>P.cellsOf f.type).sum)∧
       ∀j f,j<m→fs.toList[j]? =some f→Reads P h' f.type ((l.drop f.offset).take (P.cellsOf f.type)):=by
      intro m
      induction m with
      |zero=>exact fun _=>⟨μ,h,[],μ.le_refl,H.le_refl h,R,by simp,by simpa using RelA.nil μ,fun j f hj=>by omega⟩
      |succ m ihm=>
       intro hm2
       obtain⟨μ1,h1,l1,q1,q2,q3,q4,q5,q6⟩:=ihm (by omega)
       obtain⟨f,hf⟩:∃f,fs.toList[m]? =some f:=⟨_,List.getElem?_eq_getElem (by omega)⟩
       have h0:=mapM_some_get hm m f hf
       rw[List.getElem?_eq_getElem (show m<xs.length by rw[mapM_some_length hm];omega)] at h0
       have ho:=off m f hf
       obtain⟨μ2,h2,l2,r1,r2,r3,r4,r5⟩:=ih d f.type _ _ μ1 h1 (hpf f (List.mem_of_getElem? hf)) h0 q3
       have htot:((fs.toList.take (m+1)).map fun f=>P.cellsOf f.type).sum≤cs.length:=by
        rw[hc,hsum]
        conv=>rhs;rw[←List.take_append_drop (m+1) fs.toList]
        rw[List.map_append,List.sum_append]
        omega
       rw[sum_take_succ _ _ _ _ hf] at htot⊢
       have hl2:l2.length=P.cellsOf f.type:=by
        rw[r4.1,List.length_take,List.length_drop,ho]
        omega
       refine⟨μ2,h2,l1++l2,Mu.le_trans q1 r1,H.le_trans q2 r2,r3,by rw[List.length_append,q4,hl2], ?_,fun j g hj hg=> ?_⟩
       ·rw[List.take_add,←ho]
        rw[←ho] at q5
        exact(q5.mono r1).append r4
       ·rcases Nat.lt_or_ge j m with hj2|hj2
        ·have h3:=(q6 j g hj2 hg).mono r2
         have hfit:g.offset+P.cellsOf g.type≤l1.length:=by
          rw[q4,off j g hg,←sum_take_succ fs.toList (fun f=>P.cellsOf f.type) j g hg]
          have:fs.toList.take m=fs.toList.take (j+1)++(fs.toList.take m).drop (j+1):=by
           conv=>lhs;rw[←List.take_append_drop (j+1) (fs.toList.take m)]
           rw[List.take_take,Nat.min_eq_left (by omega)]
          rw[this,List.map_append,List.sum_append]
          omega
         rw[List.drop_append_of_le_length (by omega),List.take_append_of_le_length (by simp;omega)]
         exact h3
        ·have:j=m:=by omega
         subst this
         rw[hf] at hg
         injection hg with hg
         subst hg
         rw[ho,←q4,List.drop_left,←hl2,List.take_length]
         exact r5
     obtain⟨μ1,h1,l,q1,q2,q3,q4,q5,q6⟩:=step fs.toList.length (Nat.le_refl _)
     rw[List.take_length,←hsum] at q4 q5
     rw[List.take_of_length_le (by omega)] at q5
     refine⟨μ1,h1,l,q1,q2,q3,q5, .struct ht q4 fun f hf=> ?_⟩
     obtain⟨j,hj,rfl⟩:=List.getElem_of_mem hf
     exact q6 j _ hj (List.getElem?_eq_getElem hj)
    ·cases hx
   all_goals first
    |(simp only[‹P.underlying t=_›] at hp;cases hp;done)
    |(cases hx;done)
    |(split at hp<;>simp_all;done)
    |skip
def ReadsAll (P:Program) (h:H):List TypeId→List AV→Prop
 |[],[]=>True
 |t::ts,u::us=>ReadsV P h t u∧ReadsAll P h ts us
 |_,_=>False
theorem absorbV {base b d:Nat} {t:TypeId} {v:Value} {x:DataW H'} {ps:List MemPlace} {μ:Mu} {h:H} (hp:plainB P d t=true) (hx:DataW.Trod enc P w base (fun _=>true) true t v x ps) (hok:Value.okWide P w .any b t v)
  (R:Rep w.heap.size w μ w h):∃μ' h' u,μ.le μ'∧h.le h'∧Rep w.heap.size w μ' w h'∧Rel μ' u v∧ReadsV P h' t u:=by
 obtain⟨n,hx⟩:=hx
 obtain⟨μ',h',l,q1,q2,q3,q4,q5⟩:=absorb base n d t _ _ μ h hp hx R
 unfold ReadsV
 have one:v.cells.toList=[v]→∃u,Rel μ' u v∧l=[u]:=by
  intro hv
  rw[hv] at q4
  cases l with
  |nil=>simp[RelA] at q4
  |cons u l=>
   have hl:l=[]:=by
    have:=q4.1
    simp at this
    exact this
   subst hl
   exact⟨u,q4.2 0 u v rfl rfl,rfl⟩
 cases d with
 |zero=>simp[plainB] at hp
 |succ d=>
  unfold plainB at hp
  split at hp
  ·rename_i ht
   have hv:∃y,v= .bool y:=by
    simp only[Value.okWide,ht,Cell.okWide] at hok
    cases v<;>simp_all [Cell.ok]
   obtain⟨y,rfl⟩:=hv
   obtain⟨u,hu,rfl⟩:=one rfl
   exact⟨μ',h',u,q1,q2,q3,hu,by simpa [ht] using q5⟩
  ·rename_i k ht
   obtain⟨y,rfl⟩:=okWide_int ht hok
   obtain⟨u,hu,rfl⟩:=one rfl
   exact⟨μ',h',u,q1,q2,q3,hu,by simpa [ht] using q5⟩
  ·rename_i ht
   obtain⟨y,rfl⟩:=okWide_string ht hok
   obtain⟨u,hu,rfl⟩:=one rfl
   exact⟨μ',h',u,q1,q2,q3,hu,by simpa [ht] using q5⟩
  ·rename_i e ht
   obtain⟨y,l',c',rfl⟩:=okWide_slice ht hok
   obtain⟨u,hu,rfl⟩:=one rfl
   exact⟨μ',h',u,q1,q2,q3,hu,by simpa [ht] using q5⟩
  ·rename_i fs ht
   have hv:∃cs,v= .agg cs:=by
    simp only[Value.okWide,ht] at hok
    obtain⟨cs,rfl,_⟩:=hok
    exact⟨cs,rfl⟩
   obtain⟨cs,rfl⟩:=hv
   refine⟨μ',h', .agg l,q1,q2,q3, ?_,by simpa [ht] using q5⟩
   simpa [Value.cells] using q4.agg
  ·cases hp
theorem absorb_args {base b d:Nat}:∀{ts:List TypeId} {vs:List Value} {ds:List (DataW H')} {ps:List MemPlace} {μ:Mu} {h:H},(∀t∈ts,plainB P d t=true)→DataW.TrodAll enc P w base (fun _=>true) true ts vs ds ps→
  (∀(j:Nat) (t:TypeId) (v:Value),ts[j]? =some t→vs[j]? =some v→Value.okWide P w .any b t v)→Rep w.heap.size w μ w h→∃μ' h' us,h.le h'∧Rep w.heap.size w μ' w h'∧μ.le μ'∧RelA μ' us vs∧ReadsAll P h' ts us
 |[],[],[],_,μ,h,_,_,_,R=>⟨μ,h,[],H.le_refl h,R,μ.le_refl,RelA.nil μ,trivial⟩
 |t::ts,v::vs,x::ds,_,μ,h,hp,⟨p,q,hx,hrest,_⟩,hok,R=>by
  obtain⟨μ1,h1,u,q1,q2,q3,q4,q5⟩:=absorbV (hp t (by simp)) hx (hok 0 t v rfl rfl) R
  obtain⟨μ2,h2,us,r1,r2,r3,r4,r5⟩:=absorb_args (fun t ht=>hp t (by simp[ht])) hrest (fun j t v ht hv=>hok (j+1) t v (by simpa using ht) (by simpa using hv)) q3
  exact⟨μ2,h2,u::us,H.le_trans q2 r1,r2,Mu.le_trans q1 r3,RelA.cons (q4.mono r3) r4,q5.mono r1,r5⟩
 |[],_::_,_,_,_,_,_,hx,_,_=>hx.elim
 |[],[],_::_,_,_,_,_,hx,_,_=>hx.elim
 |_::_,[],_,_,_,_,_,hx,_,_=>hx.elim
 |_::_,_::_,[],_,_,_,_,hx,_,_=>hx.elim
theorem trodAll_stays (hl:laidOutB P=true) {W W':World} {sp':Nat→Bool}:∀{ts:List TypeId} {vs:List Value} {ds:List (DataW H')} {ps:List MemPlace},(∀t∈ts,P.readableRec t=true∧t<P.types.size)→
  DataW.TrodAll enc P W 0 (fun _=>true) true ts vs ds ps→(∀p∈ps,W.sameAt W' p)→(∀p∈ps,sp' p.block=true)→DataW.TrodAll enc P W' 0 sp' true ts vs ds ps
 |[],[],[],_,_,hx,_,_=>hx
 |t::ts,v::vs,x::ds,_,ht,⟨p,q,hx,hrest,e⟩,h1,h2=>by
  subst e
  exact⟨p,q,WideElems.Trod_stays hl (ht t (by simp)).1 (ht t (by simp)).2 hx (fun y hy=>h1 y (by simp[hy])) (fun y hy=>h2 y (by simp[hy])),
   trodAll_stays hl (fun t' ht'=>ht t' (by simp[ht'])) hrest (fun y hy=>h1 y (by simp[hy])) (fun y hy=>h2 y (by simp[hy])),rfl⟩
 |[],_::_,_,_,_,hx,_,_=>hx.elim
 |[],[],_::_,_,_,hx,_,_=>hx.elim
 |_::_,[],_,_,_,hx,_,_=>hx.elim
 |_::_,_::_,[],_,_,hx,_,_=>hx.elim
theorem trodAll_length:∀{ts:List TypeId} {vs:List Value} {ds:List (DataW H')} {ps:List MemPlace} {W:World} {b:Nat} {sp:Nat→Bool} {hd:Bool},DataW.TrodAll enc P W b sp hd ts vs ds ps→ds.length=ts.length
 |[],[],[],_,_,_,_,_,_=>rfl
 |_::_,_::_,_::_,_,_,_,_,_,⟨_,_,_,h,_⟩=>by simp[trodAll_length h]
 |[],_::_,_,_,_,_,_,_,hx=>hx.elim
 |[],[],_::_,_,_,_,_,_,hx=>hx.elim
 |_::_,[],_,_,_,_,_,_,hx=>hx.elim
 |_::_,_::_,[],_,_,_,_,_,hx=>hx.elim
theorem law_row {f:FuncId} {fn:Func} {s:ChangeSpec} {W:World} {b:Nat} {args:Array Value} {ds gs:List (DataW H')} {before:List MemPlace} {tb:TypeId} (hf:P.funcs[f]? =some fn) (hb:fn.body.isSome=true) (hname:(fn.name== "runtime.NumGoroutine")=false)
  (hg:GlobOK W.heap.size W) (hl:laidOutB P=true) (hts:(fn.params.toList.all fun t=>P.readableRec t&&decide (t<P.types.size)&&plainB P 8 t)=true) (hv:s.vars=[]) (hs:∀ds:List (DataW H'),ds.length=fn.params.size→s.fn H' ds={results:=[.lit (.bool true)],args:=ds})
  (hr:fn.resultTypes= #[tb]) (ht:P.underlying tb=some .bool) (hwalk:∀h avs,h.wf→ReadsAll P h fn.params.toList avs→ACalls P f avs h (fun r _=>r= .bool true))
  (hval:∀(j:Nat) t v,fn.params[j]? =some t→args[j]? =some v→Value.okWide P W .any b t v) (hW:DataW.Whole enc P fn.params.toList s.vars false W args.toList ds gs before):
  Calls P f args W fun e W'=>∃v,e= .returned v∧s.post enc P fn false true false false W args v W':=by
 have hall:∀t∈fn.params.toList,(P.readableRec t=true∧t<P.types.size)∧plainB P 8 t=true:=by
  intro t h
  have:=List.all_eq_true.1 hts t h
  simpa only[Bool.and_eq_true,decide_eq_true_eq] using this
 have hW':=hW
 have hlt:=hW.lt
 obtain⟨p,q,hA,hV,rfl,hfz,hnd⟩:=hW
 rw[hv] at hV
 obtain⟨rfl,rfl⟩:=trodVars_none hV
 have hd:=trodAll_length hA
 obtain⟨μ,h,us,_,R,_,hrel,hreads⟩:=absorb_args (fun t h=>(hall t h).2) hA (fun j t v ht hv=>hval j t v (by simpa using ht) (by simpa using hv)) (rep00 W hg)
 have hc:=law_calls hf hb hname R hrel (hwalk h us R.wf hreads)
 rw[show args.toList.toArray=args from by simp] at hc
 refine hc.mono ?_
 rintro e W' ⟨rfl,hB⟩
 have hsp:=hs ds (by simpa using hd)
 refine⟨_,rfl,post_kept (pa:=p) (pv:=[]) hW' (fun b sp hd=> ?_) (fun sp hsp'=> ?_) (fun sp _=> ?_) rfl hB ?_⟩
 ·rw[List.append_nil,hsp,hr]
  exact trodAll_cons_mk (shut_bool ht _) trodAll_mk0
 ·rw[List.append_nil,hsp]
  rw[List.append_nil] at hlt hsp'
  exact trodAll_stays hl (fun t h=>(hall t h).1) hA (fun x hx=>hB.same (hlt x hx)) (fun x hx=>hsp' x hx)
 ·rw[List.append_nil,hsp,hv]
  rfl
 ·exact ok_one hr rfl (okWide_bool_mk ht _)
end
end
section
set_option maxRecDepth 100000
section
variable {h:H} {u:AV}
theorem reads_int {t:TypeId} {k:IntKind} (ht:Try.prog.underlying t=some (.int k)) (r:ReadsV Try.prog h t u):∃n:Int,u= .int k n∧(Lit.int k n).wf=true:=by
 unfold ReadsV at r
 rw[ht] at r
 cases r with
 |int ht' hw=>rw[ht] at ht';injection ht' with e;injection e with e;subst e;exact⟨_,rfl,hw⟩
 |bool ht'=>rw[ht] at ht';cases ht'
 |str ht'=>rw[ht] at ht';cases ht'
 |snil ht'=>rw[ht] at ht';cases ht'
 |sl ht'=>rw[ht] at ht';cases ht'
 |struct ht'=>rw[ht] at ht';cases ht'
theorem reads_u64 (r:ReadsV Try.prog h 23 u):∃n:Nat,u= .int .u64 (n:Int)∧n<18446744073709551616:=by
 obtain⟨n,rfl,hw⟩:=reads_int Try.underlying23 r
 obtain⟨m,rfl,hm⟩:=wf_u64 hw
 exact⟨m,rfl,hm⟩
theorem reads_bool (r:ReadsV Try.prog h 4 u):∃b:Bool,u= .bool b:=by
 have ht:=Try.underlying4
 unfold ReadsV at r
 rw[ht] at r
 cases r with
 |int ht' hw=>rw[ht] at ht';cases ht'
 |bool ht'=>exact⟨_,rfl⟩
 |str ht'=>rw[ht] at ht';cases ht'
 |snil ht'=>rw[ht] at ht';cases ht'
 |sl ht'=>rw[ht] at ht';cases ht'
 |struct ht'=>rw[ht] at ht';cases ht'
theorem cell_int {t:TypeId} {k:IntKind} (ht:Try.prog.underlying t=some (.int k)) {l:List AV} (r:Reads Try.prog h t l):∃n:Int,l=[.int k n]∧(Lit.int k n).wf=true:=by
 cases r with
 |int ht' hw=>rw[ht] at ht';injection ht' with e;injection e with e;subst e;exact⟨_,rfl,hw⟩
 |bool ht'=>rw[ht] at ht';cases ht'
 |str ht'=>rw[ht] at ht';cases ht'
 |snil ht'=>rw[ht] at ht';cases ht'
 |sl ht'=>rw[ht] at ht';cases ht'
 |struct ht'=>rw[ht] at ht';cases ht'
theorem cell_ints {t e:TypeId} {k:IntKind} (ht:Try.prog.underlying t=some (.slice e)) (he:Try.prog.underlying e=some (.int k)) (hz:Try.prog.cellsOf e=1) {l:List AV} (r:Reads Try.prog h t l):∃v xs,l=[v]∧IsW k h v xs∧(∀x∈xs,(Lit.int k x).wf=true)∧xs.length≤maxLen:=by
 cases r with
 |int ht' hw=>rw[ht] at ht';cases ht'
 |bool ht'=>rw[ht] at ht';cases ht'
 |str ht'=>rw[ht] at ht';cases ht'
 |snil ht'=>exact⟨_,[],rfl,⟨none,0,none,rfl, .inl ⟨rfl,rfl,rfl⟩⟩,fun x hx=>(by cases hx),by simp⟩
 |struct ht'=>rw[ht] at ht';cases ht'
 | @sl _ e' id len r ht' hr ho hlen hl hall=>
  rw[ht] at ht'
  injection ht' with e1
  injection e1 with e1
  subst e1
  rw[hz,Nat.mul_one] at hl
  have hall':∀i,(hi:i<len)→∃n:Int,r.cells[i]? =some (.int k n)∧(Lit.int k n).wf=true:=by
   intro i hi
   obtain⟨n,e2,hw⟩:=cell_int he (hall i hi)
   refine⟨n, ?_,hw⟩
   rw[hz,Nat.mul_one] at e2
   have:=congrArg (fun l=>l[0]?) e2
   simpa [List.getElem?_take,List.getElem?_drop] using this
  let xs:List Int:=r.cells.map fun v=>match v with| .int _ n=>n|_=>0
  have hx:∀i:Nat,i<len→∃n,r.cells[i]? =some (.int k n)∧xs[i]? =some n∧(Lit.int k n).wf=true:=by
   intro i hi
   obtain⟨n,h1,h2⟩:=hall' i hi
   exact⟨n,h1,by simp[xs,h1],h2⟩
  have hxl:xs.length=len:=by simp[xs,hl]
  refine⟨_,xs,rfl,⟨some id,0,none,by rw[hxl], .inr ⟨id,r,rfl,hr, .inl ho,by omega, ?_⟩⟩,fun x hm=> ?_,by rw[hxl];exact hlen⟩
  ·rw[List.drop_zero,List.take_of_length_le (by omega)]
   apply List.ext_getElem?
   intro i
   rw[W_get]
   rcases Nat.lt_or_ge i len with hi|hi
   ·obtain⟨n,h1,h2,_⟩:=hx i hi
    rw[h1,h2];rfl
   ·rw[List.getElem?_eq_none (by omega),List.getElem?_eq_none (by omega)];rfl
  ·obtain⟨i,hi,rfl⟩:=List.getElem_of_mem hm
   obtain⟨n,_,h2,h3⟩:=hx i (by omega)
   rw[List.getElem?_eq_getElem hi] at h2
   injection h2 with h2
   rw[h2]
   exact h3
theorem readsV_slice {t e:TypeId} (ht:Try.prog.underlying t=some (.slice e)) (r:ReadsV Try.prog h t u):Reads Try.prog h t [u]:=by
 unfold ReadsV at r
 rw[ht] at r
 exact r
theorem nats {xs:List Int} (hx:∀x∈xs,(Lit.int .u64 x).wf=true):∃ys:List Nat,xs=ys.map (fun n:Nat=>(n:Int))∧∀y∈ys,y<18446744073709551616:=by
 induction xs with
 |nil=>exact⟨[],rfl,by simp⟩
 |cons x xs ih=>
  obtain⟨ys,e,hy⟩:=ih (fun z hz=>hx z (by simp[hz]))
  obtain⟨m,rfl,hm⟩:=wf_u64 (hx x (by simp))
  refine⟨m::ys,by simp[e],fun y hy2=> ?_⟩
  rcases List.mem_cons.1 hy2 with rfl|h2
  ·exact hm
  ·exact hy y h2
theorem cell_words {t:TypeId} (ht:Try.prog.underlying t=some (.slice 23)) {l:List AV} (r:Reads Try.prog h t l):∃v xs,l=[v]∧IsN h v xs∧(∀x∈xs,x<18446744073709551616)∧xs.length≤maxLen:=by
 obtain⟨v,xs,rfl,h1,h2,h3⟩:=cell_ints ht Try.underlying23 (by kernel_rfl) r
 obtain⟨ys,rfl,hy⟩:=nats h2
 exact⟨v,ys,rfl,h1,hy,by simpa using h3⟩
end
end
def tuneCells (t:Tb):List AV:=[.int .i64 0, .int .i64 0, .int .i64 0]++t.cells
theorem New_calls {t:Tb} {h:H} {K:AV→H→Prop} (hk:∀id h',h'.wf→h.le h'→h.next≤id→h'.rows id=some ⟨some 179,14,tuneCells (clampT t)⟩→K (.ptr (some (id,0))) h'):ACalls Try.prog 106 [t.av] h K:=by
 refine in_table_New (by simp) fun hw=> ?_
 unfold c_table_New
 have hl1:=H.le_new hw (H.le_refl h) ⟨some 55,11,t.cells⟩
 simp only[go_sem,av_held,av_cells,cells_len,true_and,gsT (H.rows_new h _)]
 refine Clamp_calls fun h1 hw1 hl2=> ?_
 simp only[go_sem]
 simp only[bld14,go_sem]
 exact⟨rfl,fun hw'=>hk _ _ hw' (H.le_new hw1 (H.le_trans hl1 hl2) _) (Nat.le_trans (Nat.le_succ _) hl2.1) (H.rows_new _ _)⟩
section
open Go
def c_polyz_Reduce:AC:= .seq (.reg [o 4 (.mv (.c (.sl none 0 0 none))),o 5 (.mv (i64 0))]) (.seq (.seq (.reg [mv 9 1,o 10 (.bin .lss (.t 9) (u64 2)),mv 11 10,og 12 11 false (.mv (.t 1)),og 13 11 false (.bin .geq (.t 12) (u64 4611686018427387904)),o 14 (.pick (.t 11) (.c (.bool true)) (.t 13))]) (.cond (.t 14) (.seq (.reg [o 4 (.mv (.c (.sl none 0 0 none))),o 5 (.mv (i64 3))]) .ret) .skip)) (.seq (.reg [mv 15 0,o 16 (.len false (.t 15)),o 17 (.mk 23 1 8 [.int .u64 0] (.t 16) (.t 16)),mv 6 17]) (.seq (.seq (.reg [mv 18 0,o 19 (.len false (.t 18)),o 20 (.mv (i64 0))]) (.block 0 (.loop (.seq (.reg [bn 21 .lss 20 19]) (.seq (.cond (.t 21) .skip (.exit 0)) (.seq (.block 1 (.seq (.reg [mv 22 20,o 23 (.idx 2 (.t 18) (.t 20)),o 24 (.ld (some 2) (.t 23)),o 8 (.alloc 45 [.sl none 0 0 none, .bool false]),mv 7 22,od (.st 2 (.t 8) (.t 24))]) (.reg [mv 25 6,mv 26 7,o 27 (.ld (some 2) (.t 8)),mv 28 1,o 29 (.call 27 [.t 27, .t 28]),o 30 (.idx 1 (.t 25) (.t 26)),od (.st 1 (.t 30) (.t 29))]))) (.reg [o 31 (.bin .add (.t 20) (i64 1)),mv 20 31]))))))) (.seq (.block 2 (.loop (.seq (.seq (.reg [mv 32 6,o 33 (.len false (.t 32)),o 34 (.bin .gtr (.t 33) (i64 0)),mv 35 34,og 36 35 true (.mv (.t 6)),og 37 35 true (.mv (.t 6)),og 38 35 true (.len false (.t 37)),og 39 35 true (.bin .sub (.t 38) (i64 1)),og 40 35 true (.idx 1 (.t 36) (.t 39)),og 41 35 true (.ld none (.t 40)),og 42 35 true (.bin .eql (.t 41) (u64 0)),o 43 (.pick (.t 35) (.t 42) (.c (.bool false)))]) (.cond (.t 43) .skip (.exit 2))) (.block 3 (.reg [mv 44 6,mv 45 6,o 46 (.len false (.t 45)),o 47 (.bin .sub (.t 46) (i64 1)),o 48 (.slc 1 (.t 44) none (some (.t 47))),mv 6 48]))))) (.seq (.reg [mv 49 6,mv 4 49,o 5 (.mv (i64 0))]) .ret)))))
theorem in_polyz_Reduce:Ent 6 50 c_polyz_Reduce [.t 4, .t 5]:=ent Try.func6 rfl rfl rfl (show compile _ 50 _=_ by kernel_rfl) (show compRes _ 50 _=_ by kernel_rfl)
def c_polyz_Plus:AC:= .seq (.reg [o 2 (.mv (.c (.sl none 0 0 none)))]) (.seq (.reg [o 3 (.mv (.c (.sl none 0 0 none)))]) (.seq (.seq (.reg [mv 8 0,o 9 (.len false (.t 8)),o 10 (.mv (i64 0))]) (.block 0 (.loop (.seq (.reg [bn 11 .lss 10 9]) (.seq (.cond (.t 11) .skip (.exit 0)) (.seq (.block 1 (.seq (.reg [o 12 (.idx 1 (.t 8) (.t 10)),o 13 (.ld none (.t 12)),mv 5 13]) (.seq (.reg [mv 14 5,o 15 (.len false (.t 14)),o 16 (.mv (i64 0))]) (.block 2 (.loop (.seq (.reg [bn 17 .lss 16 15]) (.seq (.cond (.t 17) .skip (.exit 2)) (.seq (.block 3 (.seq (.reg [mv 18 16,o 19 (.idx 2 (.t 14) (.t 16)),o 20 (.ld (some 2) (.t 19)),o 7 (.alloc 45 [.sl none 0 0 none, .bool false]),mv 6 18,od (.st 2 (.t 7) (.t 20))]) (.seq (.seq (.reg [mv 21 6,mv 22 3,o 23 (.len false (.t 22)),bn 24 .eql 21 23]) (.cond (.t 24) (.reg [mv 25 3,o 26 (.bld [.sl none 0 0 none, .bool false] []),o 27 (.bsl 45 2 1 [.sl none 0 0 none, .bool false] [(0, .t 26)]),o 28 (.app 45 2 32 (.t 25) (.t 27)),mv 3 28]) .skip)) (.reg [mv 29 3,mv 30 6,mv 31 3,mv 32 6,o 33 (.idx 2 (.t 31) (.t 32)),o 34 (.ld (some 2) (.t 33)),o 35 (.ld (some 2) (.t 7)),o 36 (.call 34 [.t 34, .t 35]),o 37 (.idx 2 (.t 29) (.t 30)),od (.st 2 (.t 37) (.t 36))])))) (.reg [o 38 (.bin .add (.t 16) (i64 1)),mv 16 38]))))))))) (.reg [o 39 (.bin .add (.t 10) (i64 1)),mv 10 39]))))))) (.seq (.reg [mv 40 3,o 41 (.call 35 [.t 40]),mv 2 41]) .ret)))
theorem in_polyz_Plus:Ent 11 42 c_polyz_Plus [.t 2]:=ent Try.func11 rfl rfl rfl (show compile _ 42 _=_ by kernel_rfl) (show compRes _ 42 _=_ by kernel_rfl)
def c_polyz_Minus:AC:= .seq (.reg [o 4 (.mv (.c (.sl none 0 0 none)))]) (.seq (.reg [mv 7 0,o 8 (.len false (.t 7)),mv 9 1,o 10 (.len false (.t 9)),o 11 (.mnx true (.t 8) [.t 10]),o 12 (.mk 45 2 32 [.sl none 0 0 none, .bool false] (.t 11) (.t 11)),mv 5 12]) (.seq (.seq (.reg [mv 13 5,o 14 (.len false (.t 13)),o 15 (.mv (i64 0))]) (.block 0 (.loop (.seq (.reg [bn 16 .lss 15 14]) (.seq (.cond (.t 16) .skip (.exit 0)) (.seq (.block 1 (.seq (.reg [mv 17 15,mv 6 17]) (.reg [mv 18 5,mv 19 6,mv 20 0,mv 21 6,o 22 (.call 43 [.t 20, .t 21]),mv 23 1,mv 24 6,o 25 (.call 43 [.t 23, .t 24]),o 26 (.call 42 [.t 22, .t 25]),o 27 (.idx 2 (.t 18) (.t 19)),od (.st 2 (.t 27) (.t 26))]))) (.reg [o 28 (.bin .add (.t 15) (i64 1)),mv 15 28]))))))) (.seq (.reg [mv 29 5,o 30 (.call 35 [.t 29]),mv 4 30]) .ret)))
theorem in_polyz_Minus:Ent 15 31 c_polyz_Minus [.t 4]:=ent Try.func15 rfl rfl rfl (show compile _ 31 _=_ by kernel_rfl) (show compRes _ 31 _=_ by kernel_rfl)
def c_polyz_Norm:AC:= .seq (.reg [o 2 (.mv (.c (.sl none 0 0 none)))]) (.seq (.reg [mv 6 0,o 7 (.len false (.t 6)),o 8 (.mk 45 2 32 [.sl none 0 0 none, .bool false] (.t 7) (.t 7)),mv 3 8]) (.seq (.seq (.reg [mv 9 0,o 10 (.len false (.t 9)),o 11 (.mv (i64 0))]) (.block 0 (.loop (.seq (.reg [bn 12 .lss 11 10]) (.seq (.cond (.t 12) .skip (.exit 0)) (.seq (.block 1 (.seq (.reg [mv 13 11,o 14 (.idx 2 (.t 9) (.t 11)),o 15 (.ld (some 2) (.t 14)),o 5 (.alloc 45 [.sl none 0 0 none, .bool false]),mv 4 13,od (.st 2 (.t 5) (.t 15))]) (.reg [mv 16 3,mv 17 4,o 18 (.ld (some 2) (.t 5)),o 19 (.call 44 [.t 18]),o 20 (.idx 2 (.t 16) (.t 17)),od (.st 2 (.t 20) (.t 19))]))) (.reg [o 21 (.bin .add (.t 11) (i64 1)),mv 11 21]))))))) (.seq (.reg [mv 22 3,o 23 (.call 35 [.t 22]),mv 2 23]) .ret)))
theorem in_polyz_Norm:Ent 16 24 c_polyz_Norm [.t 2]:=ent Try.func16 rfl rfl rfl (show compile _ 24 _=_ by kernel_rfl) (show compRes _ 24 _=_ by kernel_rfl)
def c_polyz_Derive:AC:= .seq (.reg [o 2 (.mv (.c (.sl none 0 0 none)))]) (.seq (.reg [mv 5 0,o 6 (.call 35 [.t 5]),mv 0 6]) (.seq (.seq (.reg [mv 7 0,o 8 (.len false (.t 7)),o 9 (.bin .eql (.t 8) (i64 0))]) (.cond (.t 9) (.seq (.reg [o 2 (.mv (.c (.sl none 0 0 none)))]) .ret) .skip)) (.seq (.reg [mv 10 0,o 11 (.len false (.t 10)),o 12 (.bin .sub (.t 11) (i64 1)),o 13 (.mk 45 2 32 [.sl none 0 0 none, .bool false] (.t 12) (.t 12)),mv 3 13]) (.seq (.seq (.reg [mv 14 3,o 15 (.len false (.t 14)),o 16 (.mv (i64 0))]) (.block 0 (.loop (.seq (.reg [bn 17 .lss 16 15]) (.seq (.cond (.t 17) .skip (.exit 0)) (.seq (.block 1 (.seq (.reg [mv 18 16,mv 4 18]) (.reg [mv 19 3,mv 20 4,mv 21 0,mv 22 4,o 23 (.bin .add (.t 22) (i64 1)),o 24 (.idx 2 (.t 21) (.t 23)),o 25 (.ld (some 2) (.t 24)),mv 26 4,o 27 (.bin .add (.t 26) (i64 1)),o 28 (.cvI .u64 (.t 27)),o 29 (.call 47 [.t 25, .t 28]),o 30 (.idx 2 (.t 19) (.t 20)),od (.st 2 (.t 30) (.t 29))]))) (.reg [o 31 (.bin .add (.t 16) (i64 1)),mv 16 31]))))))) (.seq (.reg [mv 32 3,o 33 (.call 35 [.t 32]),mv 2 33]) .ret)))))
theorem in_polyz_Derive:Ent 18 34 c_polyz_Derive [.t 2]:=ent Try.func18 rfl rfl rfl (show compile _ 34 _=_ by kernel_rfl) (show compRes _ 34 _=_ by kernel_rfl)
def c_polyz_Deg:AC:= .seq (.reg [o 2 (.mv (i64 0))]) (.seq (.reg [mv 3 0,o 4 (.call 35 [.t 3]),o 5 (.len false (.t 4)),o 6 (.bin .sub (.t 5) (i64 1)),mv 2 6]) .ret)
theorem in_polyz_Deg:Ent 20 7 c_polyz_Deg [.t 2]:=ent Try.func20 rfl rfl rfl (show compile _ 7 _=_ by kernel_rfl) (show compRes _ 7 _=_ by kernel_rfl)
def c_polyz_Same:AC:= .seq (.reg [o 4 (.mv (.c (.bool false)))]) (.seq (.seq (.reg [o 5 (.mv (i64 0))]) (.block 0 (.loop (.seq (.seq (.reg [mv 6 5,mv 7 0,o 8 (.len false (.t 7)),bn 9 .lss 6 8,mv 10 9,og 11 10 false (.mv (.t 5)),og 12 10 false (.mv (.t 1)),og 13 10 false (.len false (.t 12)),og 14 10 false (.bin .lss (.t 11) (.t 13)),o 15 (.pick (.t 10) (.c (.bool true)) (.t 14))]) (.cond (.t 15) .skip (.exit 0))) (.seq (.block 1 (.seq (.reg [mv 18 0,mv 19 5,o 20 (.call 43 [.t 18, .t 19]),mv 21 1,mv 22 5,o 23 (.call 43 [.t 21, .t 22]),o 24 (.call 48 [.t 20, .t 23]),o 25 (.bin .neq (.t 24) (i64 0))]) (.cond (.t 25) (.seq (.reg [o 4 (.mv (.c (.bool false)))]) .ret) .skip))) (.reg [mv 16 5,o 17 (.bin .add (.t 16) (i64 1)),mv 5 17])))))) (.seq (.reg [o 4 (.mv (.c (.bool true)))]) .ret))
theorem in_polyz_Same:Ent 21 26 c_polyz_Same [.t 4]:=ent Try.func21 rfl rfl rfl (show compile _ 26 _=_ by kernel_rfl) (show compRes _ 26 _=_ by kernel_rfl)
def c_polyz_Height:AC:= .seq (.reg [o 2 (.mv (i64 0))]) (.seq (.reg [o 3 (.mv (i64 0))]) (.seq (.seq (.reg [mv 6 0,o 7 (.len false (.t 6)),o 8 (.mv (i64 0))]) (.block 0 (.loop (.seq (.reg [bn 9 .lss 8 7]) (.seq (.cond (.t 9) .skip (.exit 0)) (.seq (.block 1 (.seq (.reg [o 10 (.idx 2 (.t 6) (.t 8)),o 11 (.ld (some 2) (.t 10)),o 5 (.alloc 45 [.sl none 0 0 none, .bool false]),od (.st 2 (.t 5) (.t 11))]) (.reg [mv 12 3,o 13 (.fld 0 (.t 5)),o 14 (.ld none (.t 13)),o 15 (.call 49 [.t 14]),o 16 (.mnx true (.t 12) [.t 15]),mv 3 16]))) (.reg [o 17 (.bin .add (.t 8) (i64 1)),mv 8 17]))))))) (.seq (.reg [mv 18 3,mv 2 18]) .ret)))
theorem in_polyz_Height:Ent 22 19 c_polyz_Height [.t 2]:=ent Try.func22 rfl rfl rfl (show compile _ 19 _=_ by kernel_rfl) (show compRes _ 19 _=_ by kernel_rfl)
def c_polyz_residue:AC:= .seq (.reg [o 2 (.box 45 (.t 0)),o 4 (.mv (u64 0))]) (.seq (.reg [o 9 (.fld 0 (.t 2)),o 10 (.ld none (.t 9)),mv 11 1,o 12 (.call 54 [.t 10, .t 11]),mv 8 12,o 13 (.ext (.t 8) 0),o 14 (.ext (.t 8) 1),o 15 (.ext (.t 8) 2),mv 5 13,mv 6 14,mv 7 15]) (.seq (.seq (.reg [o 16 (.fld 1 (.t 2)),o 17 (.ld none (.t 16)),mv 18 17,og 19 18 true (.mv (.t 6)),og 20 18 true (.bin .gtr (.t 19) (u64 0)),o 21 (.pick (.t 18) (.t 20) (.c (.bool false)))]) (.cond (.t 21) (.reg [mv 22 1,mv 23 6,bn 24 .sub 22 23,mv 6 24]) .skip)) (.seq (.reg [mv 25 6,mv 4 25]) .ret)))
theorem in_polyz_residue:Ent 27 26 c_polyz_residue [.t 4]:=ent Try.func27 rfl rfl rfl (show compile _ 26 _=_ by kernel_rfl) (show compRes _ 26 _=_ by kernel_rfl)
def c_polyz_New:AC:= .seq (.reg [o 1 (.box 55 (.t 0)),o 2 (.mv (.c (.ptr none)))]) (.seq (.reg [o 3 (.ld (some 11) (.t 1)),o 4 (.call 55 [.t 3]),o 5 (.bld [.ptr none] [(0,1, .t 4)]),o 6 (.box 84 (.t 5)),mv 2 6]) .ret)
theorem in_polyz_New:Ent 28 7 c_polyz_New [.t 2]:=ent Try.func28 rfl rfl rfl (show compile _ 7 _=_ by kernel_rfl) (show compRes _ 7 _=_ by kernel_rfl)
def c_polyz_trim:AC:= .seq (.reg [o 2 (.mv (.c (.sl none 0 0 none)))]) (.seq (.block 0 (.loop (.seq (.seq (.reg [mv 3 0,o 4 (.len false (.t 3)),o 5 (.bin .gtr (.t 4) (i64 0)),mv 6 5,og 7 6 true (.mv (.t 0)),og 8 6 true (.mv (.t 0)),og 9 6 true (.len false (.t 8)),og 10 6 true (.bin .sub (.t 9) (i64 1)),og 11 6 true (.idx 2 (.t 7) (.t 10)),og 12 6 true (.fld 0 (.t 11)),og 13 6 true (.ld none (.t 12)),og 14 6 true (.call 64 [.t 13]),o 15 (.pick (.t 6) (.t 14) (.c (.bool false)))]) (.cond (.t 15) .skip (.exit 0))) (.block 1 (.reg [mv 16 0,mv 17 0,o 18 (.len false (.t 17)),o 19 (.bin .sub (.t 18) (i64 1)),o 20 (.slc 2 (.t 16) none (some (.t 19))),mv 0 20]))))) (.seq (.reg [mv 21 0,mv 2 21]) .ret))
theorem in_polyz_trim:Ent 35 22 c_polyz_trim [.t 2]:=ent Try.func35 rfl rfl rfl (show compile _ 22 _=_ by kernel_rfl) (show compRes _ 22 _=_ by kernel_rfl)
def c_polyz_at:AC:= .seq (.reg [o 4 (.alloc 45 [.sl none 0 0 none, .bool false])]) (.seq (.seq (.reg [mv 5 1,mv 6 0,o 7 (.len false (.t 6)),bn 8 .lss 5 7]) (.cond (.t 8) (.seq (.reg [mv 9 0,mv 10 1,o 11 (.idx 2 (.t 9) (.t 10)),o 12 (.ld (some 2) (.t 11)),od (.st 2 (.t 4) (.t 12))]) .ret) .skip)) (.seq (.reg [o 13 (.bld [.sl none 0 0 none, .bool false] []),od (.st 2 (.t 4) (.t 13))]) .ret))
theorem in_polyz_at:Ent 43 14 c_polyz_at [.c 4 (some 2)]:=ent Try.func43 rfl rfl rfl (show compile _ 14 _=_ by kernel_rfl) (show compRes _ 14 _=_ by kernel_rfl)
def c_polyz_small:AC:= .seq (.reg [o 2 (.box 45 (.t 0)),o 4 (.alloc 45 [.sl none 0 0 none, .bool false])]) (.seq (.reg [o 6 (.fld 0 (.t 2)),o 7 (.ld none (.t 6)),mv 8 1,o 9 (.call 74 [.t 7, .t 8]),mv 5 9]) (.seq (.reg [mv 10 5,o 11 (.fld 1 (.t 2)),o 12 (.ld none (.t 11)),mv 13 12,og 14 13 true (.mv (.t 5)),og 15 13 true (.call 64 [.t 14]),og 16 13 true (.un .not (.t 15)),o 17 (.pick (.t 13) (.t 16) (.c (.bool false))),o 18 (.bld [.sl none 0 0 none, .bool false] [(0,1, .t 10),(1,1, .t 17)]),od (.st 2 (.t 4) (.t 18))]) .ret))
theorem in_polyz_small:Ent 47 19 c_polyz_small [.c 4 (some 2)]:=ent Try.func47 rfl rfl rfl (show compile _ 19 _=_ by kernel_rfl) (show compRes _ 19 _=_ by kernel_rfl)
def c_ref28_Reduce:AC:= .seq (.reg [o 4 (.mv (.c (.sl none 0 0 none)))]) (.seq (.reg [o 5 (.mv (.c (.sl none 0 0 none)))]) (.seq (.seq (.reg [o 6 (.mv (i64 0))]) (.block 0 (.loop (.seq (.seq (.reg [mv 9 6,mv 10 0,o 11 (.len false (.t 10)),bn 12 .lss 9 11]) (.cond (.t 12) .skip (.exit 0))) (.seq (.block 1 (.seq (.reg [mv 15 0,mv 16 6,o 17 (.idx 2 (.t 15) (.t 16)),o 18 (.ld (some 2) (.t 17)),mv 19 1,⟨some 20,none, .call 32 [.t 19],[(some 18,none, .ld (some 2) (.t 17))]⟩,o 21 (.call 31 [.t 18, .t 20]),o 22 (.call 30 [.t 21]),mv 7 22]) (.seq (.reg [o 8 (.mv (u64 0))]) (.seq (.seq (.reg [mv 23 7,o 24 (.len false (.t 23)),o 25 (.bin .gtr (.t 24) (i64 0))]) (.cond (.t 25) (.reg [mv 26 7,o 27 (.idx 1 (.t 26) (i64 0)),o 28 (.ld none (.t 27)),mv 8 28]) .skip)) (.reg [mv 29 5,mv 30 8,o 31 (.bsl 23 1 1 [.int .u64 0] [(0, .t 30)]),o 32 (.app 23 1 8 (.t 29) (.t 31)),mv 5 32]))))) (.reg [mv 13 6,o 14 (.bin .add (.t 13) (i64 1)),mv 6 14])))))) (.seq (.block 2 (.loop (.seq (.seq (.reg [mv 33 5,o 34 (.len false (.t 33)),o 35 (.bin .gtr (.t 34) (i64 0)),mv 36 35,og 37 36 true (.mv (.t 5)),og 38 36 true (.mv (.t 5)),og 39 36 true (.len false (.t 38)),og 40 36 true (.bin .sub (.t 39) (i64 1)),og 41 36 true (.idx 1 (.t 37) (.t 40)),og 42 36 true (.ld none (.t 41)),og 43 36 true (.bin .eql (.t 42) (u64 0)),o 44 (.pick (.t 36) (.t 43) (.c (.bool false)))]) (.cond (.t 44) .skip (.exit 2))) (.block 3 (.reg [mv 45 5,mv 46 5,o 47 (.len false (.t 46)),o 48 (.bin .sub (.t 47) (i64 1)),o 49 (.slc 1 (.t 45) none (some (.t 48))),mv 5 49]))))) (.seq (.reg [mv 50 5,mv 4 50]) .ret))))
theorem in_ref28_Reduce:Ent 9 51 c_ref28_Reduce [.t 4]:=ent Try.func9 rfl rfl rfl (show compile _ 51 _=_ by kernel_rfl) (show compRes _ 51 _=_ by kernel_rfl)
def c_ref28_Same:AC:= .seq (.reg [o 4 (.mv (.c (.bool false)))]) (.seq (.reg [mv 7 0,o 8 (.call 36 [.t 7]),mv 5 8]) (.seq (.seq (.reg [mv 9 5,o 10 (.len false (.t 9)),mv 11 1,o 12 (.len false (.t 11)),bn 13 .neq 10 12]) (.cond (.t 13) (.seq (.reg [o 4 (.mv (.c (.bool false)))]) .ret) .skip)) (.seq (.seq (.reg [o 6 (.mv (i64 0))]) (.block 0 (.loop (.seq (.seq (.reg [mv 14 6,mv 15 5,o 16 (.len false (.t 15)),bn 17 .lss 14 16]) (.cond (.t 17) .skip (.exit 0))) (.seq (.block 1 (.seq (.reg [mv 20 5,mv 21 6,o 22 (.idx 2 (.t 20) (.t 21)),o 23 (.fld 1 (.t 22)),o 24 (.ld none (.t 23)),mv 25 1,mv 26 6,o 27 (.idx 2 (.t 25) (.t 26)),o 28 (.fld 1 (.t 27)),o 29 (.ld none (.t 28)),o 30 (.beq true (.t 24) (.t 29)),mv 31 30,og 32 31 false (.mv (.t 0)),og 33 31 false (.mv (.t 6)),og 34 31 false (.idx 2 (.t 32) (.t 33)),og 35 31 false (.fld 0 (.t 34)),og 36 31 false (.ld none (.t 35)),og 37 31 false (.mv (.t 1)),og 38 31 false (.mv (.t 6)),og 39 31 false (.idx 2 (.t 37) (.t 38)),og 40 31 false (.fld 0 (.t 39)),og 41 31 false (.ld none (.t 40)),og 42 31 false (.call 37 [.t 36, .t 41]),og 43 31 false (.un .not (.t 42)),o 44 (.pick (.t 31) (.c (.bool true)) (.t 43))]) (.cond (.t 44) (.seq (.reg [o 4 (.mv (.c (.bool false)))]) .ret) .skip))) (.reg [mv 18 6,o 19 (.bin .add (.t 18) (i64 1)),mv 6 19])))))) (.seq (.reg [o 4 (.mv (.c (.bool true)))]) .ret))))
theorem in_ref28_Same:Ent 12 45 c_ref28_Same [.t 4]:=ent Try.func12 rfl rfl rfl (show compile _ 45 _=_ by kernel_rfl) (show compRes _ 45 _=_ by kernel_rfl)
def c_ref28_Add:AC:= .seq (.reg [o 4 (.mv (.c (.sl none 0 0 none)))]) (.seq (.reg [o 5 (.mv (.c (.sl none 0 0 none)))]) (.seq (.seq (.reg [o 6 (.mv (i64 0))]) (.block 0 (.loop (.seq (.seq (.reg [mv 7 6,mv 8 0,o 9 (.len false (.t 8)),mv 10 1,o 11 (.len false (.t 10)),o 12 (.mnx true (.t 9) [.t 11]),bn 13 .lss 7 12]) (.cond (.t 13) .skip (.exit 0))) (.seq (.block 1 (.reg [mv 16 5,mv 17 0,mv 18 6,o 19 (.call 39 [.t 17, .t 18]),mv 20 1,mv 21 6,o 22 (.call 39 [.t 20, .t 21]),o 23 (.call 38 [.t 19, .t 22]),o 24 (.bsl 61 2 1 [.sl none 0 0 none, .bool false] [(0, .t 23)]),o 25 (.app 61 2 32 (.t 16) (.t 24)),mv 5 25])) (.reg [mv 14 6,o 15 (.bin .add (.t 14) (i64 1)),mv 6 15])))))) (.seq (.reg [mv 26 5,o 27 (.call 40 [.t 26]),mv 4 27]) .ret)))
theorem in_ref28_Add:Ent 13 28 c_ref28_Add [.t 4]:=ent Try.func13 rfl rfl rfl (show compile _ 28 _=_ by kernel_rfl) (show compRes _ 28 _=_ by kernel_rfl)
def c_ref28_Sub:AC:= .seq (.reg [o 4 (.mv (.c (.sl none 0 0 none)))]) (.seq (.reg [o 5 (.mv (.c (.sl none 0 0 none)))]) (.seq (.seq (.reg [o 6 (.mv (i64 0))]) (.block 0 (.loop (.seq (.seq (.reg [mv 7 6,mv 8 0,o 9 (.len false (.t 8)),mv 10 1,o 11 (.len false (.t 10)),o 12 (.mnx true (.t 9) [.t 11]),bn 13 .lss 7 12]) (.cond (.t 13) .skip (.exit 0))) (.seq (.block 1 (.reg [mv 16 5,mv 17 0,mv 18 6,o 19 (.call 39 [.t 17, .t 18]),mv 20 1,mv 21 6,o 22 (.call 39 [.t 20, .t 21]),o 23 (.call 41 [.t 19, .t 22]),o 24 (.bsl 61 2 1 [.sl none 0 0 none, .bool false] [(0, .t 23)]),o 25 (.app 61 2 32 (.t 16) (.t 24)),mv 5 25])) (.reg [mv 14 6,o 15 (.bin .add (.t 14) (i64 1)),mv 6 15])))))) (.seq (.reg [mv 26 5,o 27 (.call 40 [.t 26]),mv 4 27]) .ret)))
theorem in_ref28_Sub:Ent 14 28 c_ref28_Sub [.t 4]:=ent Try.func14 rfl rfl rfl (show compile _ 28 _=_ by kernel_rfl) (show compRes _ 28 _=_ by kernel_rfl)
def c_ref28_Derive:AC:= .seq (.reg [o 2 (.mv (.c (.sl none 0 0 none)))]) (.seq (.reg [o 3 (.mv (.c (.sl none 0 0 none)))]) (.seq (.seq (.reg [o 4 (.mv (i64 1))]) (.block 0 (.loop (.seq (.seq (.reg [mv 5 4,mv 6 0,o 7 (.len false (.t 6)),bn 8 .lss 5 7]) (.cond (.t 8) .skip (.exit 0))) (.seq (.block 1 (.reg [mv 11 3,mv 12 0,mv 13 4,o 14 (.idx 2 (.t 12) (.t 13)),o 15 (.ld (some 2) (.t 14)),mv 16 4,⟨some 17,none, .call 46 [.t 16],[(some 15,none, .ld (some 2) (.t 14))]⟩,o 18 (.call 45 [.t 15, .t 17]),o 19 (.bsl 61 2 1 [.sl none 0 0 none, .bool false] [(0, .t 18)]),o 20 (.app 61 2 32 (.t 11) (.t 19)),mv 3 20])) (.reg [mv 9 4,o 10 (.bin .add (.t 9) (i64 1)),mv 4 10])))))) (.seq (.reg [mv 21 3,o 22 (.call 40 [.t 21]),mv 2 22]) .ret)))
theorem in_ref28_Derive:Ent 17 23 c_ref28_Derive [.t 2]:=ent Try.func17 rfl rfl rfl (show compile _ 23 _=_ by kernel_rfl) (show compRes _ 23 _=_ by kernel_rfl)
def c_ref28_Height:AC:= .seq (.reg [o 2 (.mv (i64 0))]) (.seq (.reg [o 3 (.mv (i64 0))]) (.seq (.seq (.reg [o 4 (.mv (i64 0))]) (.block 0 (.loop (.seq (.seq (.reg [mv 5 4,mv 6 0,o 7 (.len false (.t 6)),bn 8 .lss 5 7]) (.cond (.t 8) .skip (.exit 0))) (.seq (.block 1 (.reg [mv 11 3,mv 12 0,mv 13 4,o 14 (.idx 2 (.t 12) (.t 13)),o 15 (.fld 0 (.t 14)),o 16 (.ld none (.t 15)),o 17 (.call 50 [.t 16]),o 18 (.mnx true (.t 11) [.t 17]),mv 3 18])) (.reg [mv 9 4,o 10 (.bin .add (.t 9) (i64 1)),mv 4 10])))))) (.seq (.reg [mv 19 3,mv 2 19]) .ret)))
theorem in_ref28_Height:Ent 23 20 c_ref28_Height [.t 2]:=ent Try.func23 rfl rfl rfl (show compile _ 20 _=_ by kernel_rfl) (show compRes _ 20 _=_ by kernel_rfl)
def c_ref28_From:AC:= .seq (.reg [o 2 (.mv (.c (.sl none 0 0 none)))]) (.seq (.reg [o 3 (.mv (.c (.sl none 0 0 none)))]) (.seq (.seq (.reg [o 4 (.mv (i64 0))]) (.block 0 (.loop (.seq (.seq (.reg [mv 5 4,mv 6 0,o 7 (.len false (.t 6)),bn 8 .lss 5 7]) (.cond (.t 8) .skip (.exit 0))) (.seq (.block 1 (.reg [mv 11 3,mv 12 0,mv 13 4,o 14 (.idx 2 (.t 12) (.t 13)),o 15 (.ld (some 2) (.t 14)),o 16 (.call 53 [.t 15]),o 17 (.bsl 61 2 1 [.sl none 0 0 none, .bool false] [(0, .t 16)]),o 18 (.app 61 2 32 (.t 11) (.t 17)),mv 3 18])) (.reg [mv 9 4,o 10 (.bin .add (.t 9) (i64 1)),mv 4 10])))))) (.seq (.reg [mv 19 3,o 20 (.call 40 [.t 19]),mv 2 20]) .ret)))
theorem in_ref28_From:Ent 26 21 c_ref28_From [.t 2]:=ent Try.func26 rfl rfl rfl (show compile _ 21 _=_ by kernel_rfl) (show compRes _ 21 _=_ by kernel_rfl)
def c_ref28_To:AC:= .seq (.reg [o 2 (.mv (.c (.sl none 0 0 none)))]) (.seq (.reg [o 3 (.mv (.c (.sl none 0 0 none)))]) (.seq (.seq (.reg [o 4 (.mv (i64 0))]) (.block 0 (.loop (.seq (.seq (.reg [mv 5 4,mv 6 0,o 7 (.len false (.t 6)),bn 8 .lss 5 7]) (.cond (.t 8) .skip (.exit 0))) (.seq (.block 1 (.reg [mv 11 3,mv 12 0,mv 13 4,o 14 (.idx 2 (.t 12) (.t 13)),o 15 (.ld (some 2) (.t 14)),o 16 (.call 65 [.t 15]),o 17 (.bsl 45 2 1 [.sl none 0 0 none, .bool false] [(0, .t 16)]),o 18 (.app 45 2 32 (.t 11) (.t 17)),mv 3 18])) (.reg [mv 9 4,o 10 (.bin .add (.t 9) (i64 1)),mv 4 10])))))) (.seq (.reg [mv 19 3,mv 2 19]) .ret)))
theorem in_ref28_To:Ent 36 20 c_ref28_To [.t 2]:=ent Try.func36 rfl rfl rfl (show compile _ 20 _=_ by kernel_rfl) (show compRes _ 20 _=_ by kernel_rfl)
def c_ref28_at:AC:= .seq (.reg [o 4 (.alloc 61 [.sl none 0 0 none, .bool false])]) (.seq (.seq (.reg [mv 5 1,o 6 (.bin .lss (.t 5) (i64 0)),mv 7 6,og 8 7 false (.mv (.t 1)),og 9 7 false (.mv (.t 0)),og 10 7 false (.len false (.t 9)),og 11 7 false (.bin .geq (.t 8) (.t 10)),o 12 (.pick (.t 7) (.c (.bool true)) (.t 11))]) (.cond (.t 12) (.seq (.reg [o 13 (.bld [.sl none 0 0 none, .bool false] []),od (.st 2 (.t 4) (.t 13))]) .ret) .skip)) (.seq (.reg [mv 14 0,mv 15 1,o 16 (.idx 2 (.t 14) (.t 15)),o 17 (.ld (some 2) (.t 16)),od (.st 2 (.t 4) (.t 17))]) .ret))
theorem in_ref28_at:Ent 39 18 c_ref28_at [.c 4 (some 2)]:=ent Try.func39 rfl rfl rfl (show compile _ 18 _=_ by kernel_rfl) (show compRes _ 18 _=_ by kernel_rfl)
def c_ref28_norm:AC:= .seq (.reg [o 2 (.mv (.c (.sl none 0 0 none)))]) (.seq (.reg [mv 4 0,o 5 (.len false (.t 4)),mv 3 5]) (.seq (.block 0 (.loop (.seq (.seq (.reg [mv 6 3,o 7 (.bin .gtr (.t 6) (i64 0)),mv 8 7,og 9 8 true (.mv (.t 0)),og 10 8 true (.mv (.t 3)),og 11 8 true (.bin .sub (.t 10) (i64 1)),og 12 8 true (.idx 2 (.t 9) (.t 11)),og 13 8 true (.ld (some 2) (.t 12)),og 14 8 true (.call 70 [.t 13]),o 15 (.pick (.t 8) (.t 14) (.c (.bool false)))]) (.cond (.t 15) .skip (.exit 0))) (.block 1 (.reg [mv 16 3,o 17 (.bin .sub (.t 16) (i64 1)),mv 3 17]))))) (.seq (.reg [mv 18 0,mv 19 3,o 20 (.slc 2 (.t 18) none (some (.t 19))),mv 2 20]) .ret)))
theorem in_ref28_norm:Ent 40 21 c_ref28_norm [.t 2]:=ent Try.func40 rfl rfl rfl (show compile _ 21 _=_ by kernel_rfl) (show compRes _ 21 _=_ by kernel_rfl)
def c_law28_PolyzReduces:AC:= .seq (.reg [o 6 (.mv (.c (.bool false)))]) (.seq (.reg [mv 11 0,o 12 (.call 5 [.t 11,i64 20,i64 5]),mv 10 12,o 13 (.ext (.t 10) 0),o 14 (.ext (.t 10) 1),mv 0 13,mv 7 14]) (.seq (.seq (.reg [mv 15 2]) (.cond (.t 15) (.reg [mv 16 1,o 17 (.bin .rem (.t 16) (u64 1000)),mv 1 17]) .skip)) (.seq (.reg [mv 19 0,mv 20 1,o 21 (.call 6 [.t 19, .t 20]),mv 18 21,o 22 (.ext (.t 18) 0),o 23 (.ext (.t 18) 1),mv 8 22,mv 9 23]) (.seq (.seq (.reg [mv 24 1,o 25 (.bin .lss (.t 24) (u64 2)),mv 26 25,og 27 26 false (.mv (.t 1)),og 28 26 false (.bin .geq (.t 27) (u64 4611686018427387904)),o 29 (.pick (.t 26) (.c (.bool true)) (.t 28))]) (.cond (.t 29) (.seq (.reg [mv 30 9,o 31 (.bin .eql (.t 30) (i64 3)),mv 32 31,og 33 32 true (.mv (.t 8)),og 34 32 true (.len false (.t 33)),og 35 32 true (.bin .eql (.t 34) (i64 0)),o 36 (.pick (.t 32) (.t 35) (.c (.bool false))),mv 37 36,og 38 37 true (.call 7 []),o 39 (.pick (.t 37) (.t 38) (.c (.bool false))),mv 6 39]) .ret) .skip)) (.seq (.reg [mv 40 9,o 41 (.bin .eql (.t 40) (i64 0)),mv 42 41,og 43 42 true (.mv (.t 8)),og 44 42 true (.mv (.t 7)),og 45 42 true (.mv (.t 1)),og 46 42 true (.call 9 [.t 44, .t 45]),og 47 42 true (.call 8 [.t 43, .t 46]),o 48 (.pick (.t 42) (.t 47) (.c (.bool false))),mv 49 48,og 50 49 true (.call 7 []),o 51 (.pick (.t 49) (.t 50) (.c (.bool false))),mv 6 51]) .ret)))))
theorem in_law28_PolyzReduces:Ent 3 52 c_law28_PolyzReduces [.t 6]:=ent Try.func3 rfl rfl rfl (show compile _ 52 _=_ by kernel_rfl) (show compRes _ 52 _=_ by kernel_rfl)
def c_law28_PolyzSums:AC:= .seq (.reg [o 4 (.mv (.c (.bool false)))]) (.seq (.reg [mv 14 0,o 15 (.call 5 [.t 14,i64 20,i64 5]),mv 13 15,o 16 (.ext (.t 13) 0),o 17 (.ext (.t 13) 1),mv 0 16,mv 5 17]) (.seq (.reg [mv 19 1,o 20 (.call 5 [.t 19,i64 20,i64 5]),mv 18 20,o 21 (.ext (.t 18) 0),o 22 (.ext (.t 18) 1),mv 1 21,mv 6 22]) (.seq (.reg [mv 23 0,o 24 (.call 10 [.t 23]),mv 25 1,o 26 (.call 10 [.t 25]),mv 7 24,mv 8 26]) (.seq (.reg [mv 27 7,mv 28 8,o 29 (.bsl 22 1 2 [.sl none 0 0 none] [(0, .t 27),(1, .t 28)]),o 30 (.call 11 [.t 29]),mv 9 30]) (.seq (.seq (.reg [mv 31 5,mv 32 6,o 33 (.call 13 [.t 31, .t 32]),mv 34 9,o 35 (.call 12 [.t 33, .t 34]),o 36 (.un .not (.t 35)),mv 37 36,og 38 37 false (.mv (.t 5)),og 39 37 false (.mv (.t 6)),og 40 37 false (.call 14 [.t 38, .t 39]),og 41 37 false (.mv (.t 7)),og 42 37 false (.mv (.t 8)),og 43 37 false (.call 15 [.t 41, .t 42]),og 44 37 false (.call 12 [.t 40, .t 43]),og 45 37 false (.un .not (.t 44)),o 46 (.pick (.t 37) (.c (.bool true)) (.t 45)),mv 47 46,og 48 47 false (.mv (.t 5)),og 49 47 false (.mv (.t 7)),og 50 47 false (.call 16 [.t 49]),og 51 47 false (.call 12 [.t 48, .t 50]),og 52 47 false (.un .not (.t 51)),o 53 (.pick (.t 47) (.c (.bool true)) (.t 52)),mv 54 53,og 55 54 false (.mv (.t 5)),og 56 54 false (.call 17 [.t 55]),og 57 54 false (.mv (.t 7)),og 58 54 false (.call 18 [.t 57]),og 59 54 false (.call 12 [.t 56, .t 58]),og 60 54 false (.un .not (.t 59)),o 61 (.pick (.t 54) (.c (.bool true)) (.t 60))]) (.cond (.t 61) (.seq (.reg [o 4 (.mv (.c (.bool false)))]) .ret) .skip)) (.seq (.seq (.reg [o 10 (.mv (i64 0))]) (.block 0 (.loop (.seq (.seq (.reg [mv 62 10,mv 63 9,o 64 (.len false (.t 63)),bn 65 .lss 62 64]) (.cond (.t 65) .skip (.exit 0))) (.seq (.block 1 (.reg [mv 68 9,mv 69 10,o 70 (.idx 2 (.t 68) (.t 69)),o 71 (.fld 0 (.t 70)),o 72 (.ld none (.t 71)),o 73 (.call 19 [.t 72])])) (.reg [mv 66 10,o 67 (.bin .add (.t 66) (i64 1)),mv 10 67])))))) (.seq (.reg [mv 74 7,o 75 (.call 16 [.t 74]),mv 11 75]) (.seq (.seq (.reg [o 12 (.mv (i64 0))]) (.block 2 (.loop (.seq (.seq (.reg [mv 76 12,mv 77 11,o 78 (.len false (.t 77)),bn 79 .lss 76 78]) (.cond (.t 79) .skip (.exit 2))) (.seq (.block 3 (.reg [mv 82 11,mv 83 12,o 84 (.idx 2 (.t 82) (.t 83)),o 85 (.fld 0 (.t 84)),o 86 (.ld none (.t 85)),o 87 (.call 19 [.t 86])])) (.reg [mv 80 12,o 81 (.bin .add (.t 80) (i64 1)),mv 12 81])))))) (.seq (.reg [mv 88 7,o 89 (.call 20 [.t 88]),mv 90 5,o 91 (.len false (.t 90)),o 92 (.bin .sub (.t 91) (i64 1)),bn 93 .eql 89 92,mv 94 93,og 95 94 true (.mv (.t 7)),og 96 94 true (.mv (.t 8)),og 97 94 true (.call 21 [.t 95, .t 96]),og 98 94 true (.mv (.t 5)),og 99 94 true (.mv (.t 6)),og 100 94 true (.call 14 [.t 98, .t 99]),og 101 94 true (.len false (.t 100)),og 102 94 true (.bin .eql (.t 101) (i64 0)),og 103 94 true (.beq false (.t 97) (.t 102)),o 104 (.pick (.t 94) (.t 103) (.c (.bool false))),mv 105 104,og 106 105 true (.mv (.t 7)),og 107 105 true (.call 22 [.t 106]),og 108 105 true (.mv (.t 5)),og 109 105 true (.call 23 [.t 108]),og 110 105 true (.bin .eql (.t 107) (.t 109)),o 111 (.pick (.t 105) (.t 110) (.c (.bool false))),mv 112 111,og 113 112 true (.mv (.t 7)),og 114 112 true (.mv (.t 0)),og 115 112 true (.call 24 [.t 113, .t 114]),o 116 (.pick (.t 112) (.t 115) (.c (.bool false))),mv 117 116,og 118 117 true (.mv (.t 8)),og 119 117 true (.mv (.t 1)),og 120 117 true (.call 24 [.t 118, .t 119]),o 121 (.pick (.t 117) (.t 120) (.c (.bool false))),mv 122 121,og 123 122 true (.call 7 []),o 124 (.pick (.t 122) (.t 123) (.c (.bool false))),mv 4 124]) .ret)))))))))
theorem in_law28_PolyzSums:Ent 4 125 c_law28_PolyzSums [.t 4]:=ent Try.func4 rfl rfl rfl (show compile _ 125 _=_ by kernel_rfl) (show compRes _ 125 _=_ by kernel_rfl)
def c_law28_cut:AC:= .seq (.reg [o 6 (.mv (.c (.sl none 0 0 none))),o 7 (.mv (.c (.sl none 0 0 none)))]) (.seq (.reg [mv 8 0,mv 9 1,mv 10 2,o 11 (.call 25 [.t 8, .t 9, .t 10]),mv 0 11]) (.seq (.reg [mv 12 0,mv 13 0,o 14 (.call 26 [.t 13]),mv 6 12,mv 7 14]) .ret))
theorem in_law28_cut:Ent 5 15 c_law28_cut [.t 6, .t 7]:=ent Try.func5 rfl rfl rfl (show compile _ 15 _=_ by kernel_rfl) (show compRes _ 15 _=_ by kernel_rfl)
def c_law28_wakes:AC:= .seq (.reg [o 0 (.mv (.c (.bool false)))]) (.seq (.reg [o 2 (.bld [.int .i64 0, .int .i64 0, .int .i64 0, .int .i64 0, .int .i64 0, .int .i64 0, .int .i64 0, .int .i64 0, .int .i64 0, .int .i64 0, .int .i64 0] []),o 3 (.call 28 [.t 2]),mv 1 3]) (.seq (.reg [mv 4 1,o 5 (.peq true (.t 4) (.c (.ptr none))),mv 6 5,og 7 6 true (.call 29 [i64 3]),og 8 6 true (.call 29 [i64 (-4)]),og 9 6 true (.bsl 45 2 2 [.sl none 0 0 none, .bool false] [(0, .t 7),(1, .t 8)]),og 10 6 true (.call 22 [.t 9]),og 11 6 true (.bin .eql (.t 10) (i64 3)),o 12 (.pick (.t 6) (.t 11) (.c (.bool false))),mv 13 12,og 14 13 true (.call 20 [.c (.sl none 0 0 none)]),og 15 13 true (.bin .eql (.t 14) (i64 (-1))),o 16 (.pick (.t 13) (.t 15) (.c (.bool false))),mv 0 16]) .ret))
theorem in_law28_wakes:Ent 7 17 c_law28_wakes [.t 0]:=ent Try.func7 rfl rfl rfl (show compile _ 17 _=_ by kernel_rfl) (show compRes _ 17 _=_ by kernel_rfl)
def c_divs_New:AC:= .seq (.reg [o 1 (.box 55 (.t 0)),o 2 (.mv (.c (.ptr none)))]) (.seq (.reg [o 3 (.ld (some 11) (.t 1)),o 4 (.call 102 [.t 3]),o 5 (.bld [.ptr none] [(0,1, .t 4)]),o 6 (.box 158 (.t 5)),mv 2 6]) .ret)
theorem in_divs_New:Ent 101 7 c_divs_New [.t 2]:=ent Try.func101 rfl rfl rfl (show compile _ 7 _=_ by kernel_rfl) (show compRes _ 7 _=_ by kernel_rfl)
def c_mul_New:AC:= .seq (.reg [o 1 (.box 55 (.t 0)),o 2 (.mv (.c (.ptr none)))]) (.seq (.reg [o 3 (.ld (some 11) (.t 1)),o 4 (.call 103 [.t 3]),o 5 (.bld [.ptr none] [(0,1, .t 4)]),o 6 (.box 162 (.t 5)),mv 2 6]) .ret)
theorem in_mul_New:Ent 102 7 c_mul_New [.t 2]:=ent Try.func102 rfl rfl rfl (show compile _ 7 _=_ by kernel_rfl) (show compRes _ 7 _=_ by kernel_rfl)
def c_modn_New:AC:= .seq (.reg [o 1 (.box 55 (.t 0)),o 2 (.mv (.c (.ptr none)))]) (.seq (.reg [o 3 (.ld (some 11) (.t 1)),o 4 (.call 82 [.t 3]),o 5 (.bld [.ptr none] [(0,1, .t 4)]),o 6 (.box 111 (.t 5)),mv 2 6]) .ret)
theorem in_modn_New:Ent 55 7 c_modn_New [.t 2]:=ent Try.func55 rfl rfl rfl (show compile _ 7 _=_ by kernel_rfl) (show compRes _ 7 _=_ by kernel_rfl)
def c_toom_New:AC:= .seq (.reg [o 1 (.box 55 (.t 0)),o 2 (.mv (.c (.ptr none)))]) (.seq (.reg [o 3 (.ld (some 11) (.t 1)),o 4 (.call 104 [.t 3]),o 5 (.bld [.ptr none] [(0,1, .t 4)]),o 6 (.box 166 (.t 5)),mv 2 6]) .ret)
theorem in_toom_New:Ent 103 7 c_toom_New [.t 2]:=ent Try.func103 rfl rfl rfl (show compile _ 7 _=_ by kernel_rfl) (show compRes _ 7 _=_ by kernel_rfl)
def c_hgcd_New:AC:= .seq (.reg [o 1 (.box 55 (.t 0)),o 2 (.mv (.c (.ptr none)))]) (.seq (.reg [o 3 (.ld (some 11) (.t 1)),o 4 (.call 90 [.t 3]),o 5 (.bld [.ptr none] [(0,1, .t 4)]),o 6 (.box 121 (.t 5)),mv 2 6]) .ret)
theorem in_hgcd_New:Ent 82 7 c_hgcd_New [.t 2]:=ent Try.func82 rfl rfl rfl (show compile _ 7 _=_ by kernel_rfl) (show compRes _ 7 _=_ by kernel_rfl)
def c_kara_New:AC:= .seq (.reg [o 1 (.box 55 (.t 0)),o 2 (.mv (.c (.ptr none)))]) (.seq (.reg [o 3 (.ld (some 11) (.t 1)),o 4 (.call 105 [.t 3]),o 5 (.bld [.ptr none] [(0,1, .t 4)]),o 6 (.box 170 (.t 5)),mv 2 6]) .ret)
theorem in_kara_New:Ent 104 7 c_kara_New [.t 2]:=ent Try.func104 rfl rfl rfl (show compile _ 7 _=_ by kernel_rfl) (show compRes _ 7 _=_ by kernel_rfl)
def c_gcd_New:AC:= .seq (.reg [o 1 (.box 55 (.t 0)),o 2 (.mv (.c (.ptr none)))]) (.seq (.reg [o 3 (.ld (some 11) (.t 1)),o 4 (.call 93 [.t 3]),o 5 (.bld [.ptr none] [(0,1, .t 4)]),o 6 (.box 128 (.t 5)),mv 2 6]) .ret)
theorem in_gcd_New:Ent 90 7 c_gcd_New [.t 2]:=ent Try.func90 rfl rfl rfl (show compile _ 7 _=_ by kernel_rfl) (show compRes _ 7 _=_ by kernel_rfl)
def c_school_New:AC:= .seq (.reg [o 1 (.box 55 (.t 0)),o 2 (.mv (.c (.ptr none)))]) (.seq (.reg [o 3 (.ld (some 11) (.t 1)),o 4 (.call 106 [.t 3]),o 5 (.bld [.ptr none] [(0,1, .t 4)]),o 6 (.box 174 (.t 5)),mv 2 6]) .ret)
theorem in_school_New:Ent 105 7 c_school_New [.t 2]:=ent Try.func105 rfl rfl rfl (show compile _ 7 _=_ by kernel_rfl) (show compRes _ 7 _=_ by kernel_rfl)
def c_power_New:AC:= .seq (.reg [o 1 (.box 55 (.t 0)),o 2 (.mv (.c (.ptr none)))]) (.seq (.reg [o 3 (.ld (some 11) (.t 1)),o 4 (.call 96 [.t 3]),o 5 (.bld [.ptr none] [(0,1, .t 4)]),o 6 (.box 134 (.t 5)),mv 2 6]) .ret)
theorem in_power_New:Ent 93 7 c_power_New [.t 2]:=ent Try.func93 rfl rfl rfl (show compile _ 7 _=_ by kernel_rfl) (show compRes _ 7 _=_ by kernel_rfl)
def c_radix_New:AC:= .seq (.reg [o 1 (.box 55 (.t 0)),o 2 (.mv (.c (.ptr none)))]) (.seq (.reg [o 3 (.ld (some 11) (.t 1)),o 4 (.call 98 [.t 3]),o 5 (.bld [.ptr none] [(0,1, .t 4)]),o 6 (.box 142 (.t 5)),mv 2 6]) .ret)
theorem in_radix_New:Ent 97 7 c_radix_New [.t 2]:=ent Try.func97 rfl rfl rfl (show compile _ 7 _=_ by kernel_rfl) (show compRes _ 7 _=_ by kernel_rfl)
def c_root_New:AC:= .seq (.reg [o 1 (.box 55 (.t 0)),o 2 (.mv (.c (.ptr none)))]) (.seq (.reg [o 3 (.ld (some 11) (.t 1)),o 4 (.call 99 [.t 3]),o 5 (.bld [.ptr none] [(0,1, .t 4)]),o 6 (.box 146 (.t 5)),mv 2 6]) .ret)
theorem in_root_New:Ent 98 7 c_root_New [.t 2]:=ent Try.func98 rfl rfl rfl (show compile _ 7 _=_ by kernel_rfl) (show compRes _ 7 _=_ by kernel_rfl)
def c_div_New:AC:= .seq (.reg [o 1 (.box 55 (.t 0)),o 2 (.mv (.c (.ptr none)))]) (.seq (.reg [o 3 (.ld (some 11) (.t 1)),o 4 (.call 100 [.t 3]),o 5 (.bld [.ptr none] [(0,1, .t 4)]),o 6 (.box 150 (.t 5)),mv 2 6]) .ret)
theorem in_div_New:Ent 99 7 c_div_New [.t 2]:=ent Try.func99 rfl rfl rfl (show compile _ 7 _=_ by kernel_rfl) (show compRes _ 7 _=_ by kernel_rfl)
def c_recip_New:AC:= .seq (.reg [o 1 (.box 55 (.t 0)),o 2 (.mv (.c (.ptr none)))]) (.seq (.reg [o 3 (.ld (some 11) (.t 1)),o 4 (.call 101 [.t 3]),o 5 (.bld [.ptr none] [(0,1, .t 4)]),o 6 (.box 154 (.t 5)),mv 2 6]) .ret)
theorem in_recip_New:Ent 100 7 c_recip_New [.t 2]:=ent Try.func100 rfl rfl rfl (show compile _ 7 _=_ by kernel_rfl) (show compRes _ 7 _=_ by kernel_rfl)
end
def H.lee (u:Nat) (h h':H):Prop:=h.next≤h'.next∧∀i r,i≠u→h.rows i=some r→h'.rows i=some r
theorem H.le.lee {u:Nat} {h h':H} (hl:h.le h'):H.lee u h h':=⟨hl.1,fun i r _ hr=>hl.2 i r hr⟩
theorem H.lee.trans {u:Nat} {a b c:H} (h:H.lee u a b) (k:H.lee u b c):H.lee u a c:=⟨Nat.le_trans h.1 k.1,fun i r hi hr=>k.2 i r hi (h.2 i r hi hr)⟩
theorem H.lee_refl (u:Nat) (h:H):H.lee u h h:=(H.le_refl h).lee
theorem H.lee_set {u:Nat} {h:H} (r:Row):H.lee u h (h.set u r):=⟨Nat.le_refl _,fun i q hi hr=>by rw[H.rows_set_ne hi];exact hr⟩
theorem IsW.monoE {u:Nat} {k:IntKind} {h h':H} {v:AV} {xs:List Int} {ru:Row} (hu:h.rows u=some ru) (ho:ru.own≠none) (hz:ru.esz≠1) (hv:IsW k h v xs) (hl:H.lee u h h'):IsW k h' v xs:=by
 obtain⟨id,off,c,rfl,h1⟩:=hv
 refine⟨id,off,c,rfl, ?_⟩
 rcases h1 with h1|⟨i,r,rfl,hr,hor,h3,h4⟩
 ·exact .inl h1
 ·refine .inr ⟨i,r,rfl,hl.2 i r ?_ hr,hor,h3,h4⟩
  rintro rfl
  rw[hu] at hr
  injection hr with hr
  subst hr
  rcases hor with h|h
  ·exact ho h
  ·exact hz h
def wr (m:Nat):Int:=IntKind.i64.wrap (m:Int)
theorem wr_small {m:Nat} (h:m<9223372036854775808):wr m=(m:Int):=wI (by omega) (by omega)
def tuneRow (m nw dp:Nat) (t:Tb):Row:=⟨some 179,14,[.int .i64 (wr m), .int .i64 (nw:Int), .int .i64 (dp:Int)]++t.cells⟩
def Tune (h:H) (u m nw dp:Nat) (t:Tb):Prop:=h.rows u=some (tuneRow m nw dp t)
def Eng:Nat→H→Nat→Nat→Prop
 |0,_,e,u=>e=u
 |d+1,h,e,u=>∃r e',h.rows e=some r∧r.cells=[.ptr (some (e',0))]∧Eng d h e' u
theorem Eng.mono {h h':H} {u:Nat}:∀{d e:Nat},Eng d h e u→h.le h'→Eng d h' e u
 |0,_,he,_=>he
 |_+1,_,⟨r,e',h1,h2,h3⟩,hl=>⟨r,e',hl.2 _ _ h1,h2,h3.mono hl⟩
theorem Tune.mono {h h':H} {u m nw dp:Nat} {t:Tb} (ht:Tune h u m nw dp t) (hl:h.le h'):Tune h' u m nw dp t:=hl.2 _ _ ht
theorem tune_zero {t:Tb}:tuneRow 0 0 0 t=⟨some 179,14,tuneCells t⟩:=by
 have e:wr 0=0:=wr_small (by omega)
 simp[tuneRow,tuneCells,e]
theorem tNew_calls {t:Tb} {h:H} {K:AV→H→Prop} (hk:∀id h',h'.wf→h.le h'→h.next≤id→Tune h' id 0 0 0 (clampT t)→K (.ptr (some (id,0))) h'):ACalls Try.prog 106 [t.av] h K:=
 New_calls fun id h' hw' hl' hn hr=>hk id h' hw' hl' hn (by unfold Tune;rw[tune_zero];exact hr)
theorem bldp {p:Option (Nat×Nat)}:abuild [AV.ptr none] [(0,1,AV.ptr p)]=some [AV.ptr p]:=by simp[abuild,putAt,AV.held,AV.cells]
theorem sNew_calls {t:Tb} {h:H} {K:AV→H→Prop} (hk:∀e u h',h'.wf→h.le h'→h.next≤u→u<e→Eng 1 h' e u→Tune h' u 0 0 0 (clampT t)→K (.ptr (some (e,0))) h'):ACalls Try.prog 105 [t.av] h K:=by
 refine in_school_New (by simp) fun hw=> ?_
 unfold c_school_New
 have hl1:=H.le_new hw (H.le_refl h) ⟨some 55,11,t.cells⟩
 have hn1:h.next<(h.new ⟨some 55,11,t.cells⟩).next:=Nat.lt_succ_self _
 simp only[go_sem,av_held,av_cells,cells_len,true_and,gsT (H.rows_new h _)]
 refine tNew_calls fun u h1 hw1 hl2 hn2 ht=> ?_
 simp only[go_sem,bldp]
 simp only[AV.held,AV.cells,true_and,go_sem]
 have hl3:=H.le_new hw1 (H.le_refl h1) ⟨some 174,1,[AV.ptr (some (u,0))]⟩
 exact fun hw'=>hk _ u _ hw' (H.le_trans hl1 (H.le_trans hl2 hl3)) (by omega) (H.row_lt hw1 ht) ⟨_,u,H.rows_new _ _,rfl,rfl⟩ (ht.mono hl3)
theorem kNew_calls {t:Tb} {h:H} {K:AV→H→Prop} (hk:∀e u h',h'.wf→h.le h'→h.next≤u→u<e→Eng 2 h' e u→Tune h' u 0 0 0 (clampT t)→K (.ptr (some (e,0))) h'):ACalls Try.prog 104 [t.av] h K:=by
 refine in_kara_New (by simp) fun hw=> ?_
 unfold c_kara_New
 have hl1:=H.le_new hw (H.le_refl h) ⟨some 55,11,t.cells⟩
 have hn1:h.next<(h.new ⟨some 55,11,t.cells⟩).next:=Nat.lt_succ_self _
 simp only[go_sem,av_held,av_cells,cells_len,true_and,gsT (H.rows_new h _)]
 refine sNew_calls fun e u h1 hw1 hl2 hn2 _ he ht=> ?_
 simp only[go_sem,bldp]
 simp only[AV.held,AV.cells,true_and,go_sem]
 have hl3:=H.le_new hw1 (H.le_refl h1) ⟨some 170,1,[AV.ptr (some (e,0))]⟩
 exact fun hw'=>hk _ u _ hw' (H.le_trans hl1 (H.le_trans hl2 hl3)) (by omega) (H.row_lt hw1 ht) ⟨_,e,H.rows_new _ _,rfl,he.mono hl3⟩ (ht.mono hl3)
theorem toNew_calls {t:Tb} {h:H} {K:AV→H→Prop} (hk:∀e u h',h'.wf→h.le h'→h.next≤u→u<e→Eng 3 h' e u→Tune h' u 0 0 0 (clampT t)→K (.ptr (some (e,0))) h'):ACalls Try.prog 103 [t.av] h K:=by
 refine in_toom_New (by simp) fun hw=> ?_
 unfold c_toom_New
 have hl1:=H.le_new hw (H.le_refl h) ⟨some 55,11,t.cells⟩
 have hn1:h.next<(h.new ⟨some 55,11,t.cells⟩).next:=Nat.lt_succ_self _
 simp only[go_sem,av_held,av_cells,cells_len,true_and,gsT (H.rows_new h _)]
 refine kNew_calls fun e u h1 hw1 hl2 hn2 _ he ht=> ?_
 simp only[go_sem,bldp]
 simp only[AV.held,AV.cells,true_and,go_sem]
 have hl3:=H.le_new hw1 (H.le_refl h1) ⟨some 166,1,[AV.ptr (some (e,0))]⟩
 exact fun hw'=>hk _ u _ hw' (H.le_trans hl1 (H.le_trans hl2 hl3)) (by omega) (H.row_lt hw1 ht) ⟨_,e,H.rows_new _ _,rfl,he.mono hl3⟩ (ht.mono hl3)
theorem mNew_calls {t:Tb} {h:H} {K:AV→H→Prop} (hk:∀e u h',h'.wf→h.le h'→h.next≤u→u<e→Eng 4 h' e u→Tune h' u 0 0 0 (clampT t)→K (.ptr (some (e,0))) h'):ACalls Try.prog 102 [t.av] h K:=by
 refine in_mul_New (by simp) fun hw=> ?_
 unfold c_mul_New
 have hl1:=H.le_new hw (H.le_refl h) ⟨some 55,11,t.cells⟩
 have hn1:h.next<(h.new ⟨some 55,11,t.cells⟩).next:=Nat.lt_succ_self _
 simp only[go_sem,av_held,av_cells,cells_len,true_and,gsT (H.rows_new h _)]
 refine toNew_calls fun e u h1 hw1 hl2 hn2 _ he ht=> ?_
 simp only[go_sem,bldp]
 simp only[AV.held,AV.cells,true_and,go_sem]
 have hl3:=H.le_new hw1 (H.le_refl h1) ⟨some 162,1,[AV.ptr (some (e,0))]⟩
 exact fun hw'=>hk _ u _ hw' (H.le_trans hl1 (H.le_trans hl2 hl3)) (by omega) (H.row_lt hw1 ht) ⟨_,e,H.rows_new _ _,rfl,he.mono hl3⟩ (ht.mono hl3)
theorem dNew_calls {t:Tb} {h:H} {K:AV→H→Prop} (hk:∀e u h',h'.wf→h.le h'→h.next≤u→u<e→Eng 5 h' e u→Tune h' u 0 0 0 (clampT t)→K (.ptr (some (e,0))) h'):ACalls Try.prog 101 [t.av] h K:=by
 refine in_divs_New (by simp) fun hw=> ?_
 unfold c_divs_New
 have hl1:=H.le_new hw (H.le_refl h) ⟨some 55,11,t.cells⟩
 have hn1:h.next<(h.new ⟨some 55,11,t.cells⟩).next:=Nat.lt_succ_self _
 simp only[go_sem,av_held,av_cells,cells_len,true_and,gsT (H.rows_new h _)]
 refine mNew_calls fun e u h1 hw1 hl2 hn2 _ he ht=> ?_
 simp only[go_sem,bldp]
 simp only[AV.held,AV.cells,true_and,go_sem]
 have hl3:=H.le_new hw1 (H.le_refl h1) ⟨some 158,1,[AV.ptr (some (e,0))]⟩
 exact fun hw'=>hk _ u _ hw' (H.le_trans hl1 (H.le_trans hl2 hl3)) (by omega) (H.row_lt hw1 ht) ⟨_,e,H.rows_new _ _,rfl,he.mono hl3⟩ (ht.mono hl3)
theorem Big.w1 {x:Nat} (h:x<18446744073709551616):Big x:=lt_big64 (k:=1) (by omega) (by omega)
theorem IsG.cut {b:Nat} {h:H} {id:Option Nat} {n:Nat} {c c':Option Nat} {xs:List Nat} (hv:IsG b h (.sl id 0 n c) xs) {m:Nat} (hm:m≤xs.length):IsG b h (.sl id 0 m c') (xs.take m):=by
 have:=IsF.cut (c':=c') hv (m:=m) (by simpa using hm)
 unfold IsG
 rw[List.map_take]
 exact this
theorem To_calls {v:AV} {x:Nat} {h:H} {K:AV→H→Prop} (nv:Num 4294967296 h v x) (hx:Big x)
  (hk:∀r h',h'.wf→h.le h'→Nf h.next h' r x→K r h'):ACalls Try.prog 30 [v] h K:=by
 obtain⟨xs,hv,hxd,hxt,rfl,hxl⟩:=nv.open hx
 obtain⟨id,off,c,rfl⟩:=hv.form
 refine in_ref02_To (by simp) fun hw=> ?_
 unfold c_ref02_To
 simp only[go_sem]
 refine for_rule (fun p ρ h'=>2*p≤xs.length+1∧h'.wf∧h.le h'∧ρ 0= .sl id off xs.length c∧ρ 4= .int .i64 ((2*p:Nat):Int)∧∃out,IsG h.next h' (ρ 3) out∧Dig out∧out.length=p∧val 18446744073709551616 out=val 4294967296 (xs.take (2*p))) (xs.length+1) ⟨by omega,hw,H.le_refl h,rfl,rfl,[],IsF.nil _ _ _ _ _,Dig.nil,rfl,by simp[val]⟩ (fun i ρ h hI=>by omega) ?_
 rintro p ρ h' ⟨hp,hw',hle,h0,h4,out,hs,hod,hol,hov⟩
 have e2:IntKind.i64.wrap (((2*p:Nat):Int)+2)=((2*(p+1):Nat):Int):=by rw[wI]<;>omega
 have e1:=incI (i:=2*p) (by omega)
 rcases Nat.lt_or_ge (2*p) xs.length with hlt|hge
 ·have hxb:=hxd _ (List.getElem_mem hlt)
  have hyb:=getD_lt (B:=4294967296) (by omega) hxd (2*p+1)
  have hv1:=val_take_succ 4294967296 xs (2*p) hlt
  have hv2:=val_take_get 4294967296 xs (2*p+1)
  obtain⟨j,rfl,_,hg⟩:=(hv.mono hle).at hlt
  simp only[go_sem,h0,h4,ltT hlt]
  refine⟨by omega,by omega, ?_⟩
  simp only[go_sem,h0,h4,hg,e1]
  refine cond_cut (fun ρ' h2=>h2=h'∧ρ' 0= .sl (some j) off xs.length c∧ρ' 4= .int .i64 ((2*p:Nat):Int)∧ρ' 3=ρ 3∧ρ' 5= .int .u64 ((xs[2*p]+xs.getD (2*p+1) 0*4294967296:Nat):Int)) ?_ ?_
  ·rcases Nat.lt_or_ge (2*p+1) xs.length with hy|hy
   ·obtain⟨j',ee,_,hg'⟩:=(hv.mono hle).at hy
    injection ee with ee
    subst ee
    rw[getD_at hy] at hyb⊢
    have m1:IntKind.u64.wrap ((xs[2*p+1]:Int)*4294967296)=((xs[2*p+1]*4294967296:Nat):Int):=by rw[wU]<;>omega
    simp only[go_sem,h0,h4,ltT hy,e1]
    refine⟨by omega,by omega, ?_⟩
    simp only[go_sem,hg',m1,addU (a:=xs[2*p]) (b:=xs[2*p+1]*4294967296) (by omega),h0,h4]
    exact⟨trivial,trivial,trivial,trivial,trivial⟩
   ·rw[getD_ge hy]
    simp only[go_sem,h0,h4,ltF hy]
    exact⟨trivial,trivial,trivial,trivial,by simp⟩
  rintro ρ' h2 ⟨rfl,h0,h4,h3,h5⟩
  rw[←h3] at hs
  have hwb:xs[2*p]+xs.getD (2*p+1) 0*4294967296<18446744073709551616:=by omega
  simp only[go_sem,h0,h4,h5]
  refine app_lit [xs[2*p]+xs.getD (2*p+1) 0*4294967296] hw hw' hle hs rfl rfl (by simp;omega) fun v' h3' hw3 hle3 hv3=> ?_
  simp only[go_sem,h0,h4,e2]
  refine⟨by omega,hw3,hle3,by first|rfl|trivial|assumption,by first|rfl|trivial|assumption,_,hv3,hod.append (Dig.one hwb),by simp;omega, ?_⟩
  rw[val_snoc,hol,hov,show 2*(p+1)=2*p+1+1 by omega,hv2,hv1,show 18446744073709551616^p=4294967296^(2*p) by rw[Nat.pow_mul],Nat.pow_succ,Nat.mul_add]
  rw[Nat.mul_assoc,Nat.mul_comm 4294967296,←Nat.add_assoc]
 ·simp only[go_sem,h0,h4,ltF hge]
  rw[List.take_of_length_le hge] at hov
  obtain⟨k0,ck,h3⟩:=hs.form
  rw[h3] at hs
  refine⟨fun k ρ h2=>h2=h'∧k≤out.length∧ρ 3= .sl k0 0 k ck∧(∀x∈out.drop k,x=0),out.length,⟨rfl,Nat.le_refl _,h3,by simp⟩, ?_⟩
  clear h3
  rintro k ρ h2 ⟨rfl,hk1,h3,hz⟩
  have hG:=hs.cut (c':=ck) hk1
  have fin:Top (out.take k)→K (.sl k0 0 k ck) h2:=fun ht=>hk _ h2 hw' hle ⟨out.take k,hG,hod.take k,ht,by rw[val_take 18446744073709551616 out k hz,hov]⟩
  rcases Nat.eq_zero_or_pos k with hz0|hpos
  ·subst hz0
   simp only[go_sem,h3,show decide ((0:Int)<((0:Nat):Int))=false from rfl]
   exact fun _=>fin (by simp[Top])
  ·have e3:IntKind.i64.wrap ((k:Int)-1)=((k-1:Nat):Int):=decI hpos (by omega)
   obtain⟨i,rfl,_,hg⟩:=hs.isN.at (j:=k-1) (by omega)
   rw[Nat.zero_add] at hg
   simp only[go_sem,h3,show decide ((0:Int)<(k:Int))=true from decide_eq_true (by omega),e3]
   refine⟨by omega,by omega, ?_⟩
   simp only[go_sem,hg,h3]
   by_cases hx0:out[k-1]=0
   ·simp only[go_sem,eqT (show((out[k-1]:Nat):Int)=0 by omega),h3,e3]
    refine⟨by omega,by omega,hG.isN.row, ?_⟩
    refine⟨k-1,by omega,by first|rfl|trivial|assumption,by omega,by first|rfl|trivial|assumption,fun x hm=> ?_⟩
    rw[List.drop_eq_getElem_cons (by omega)] at hm
    rcases List.mem_cons.1 hm with rfl|hm
    ·exact hx0
    ·exact hz x (by rwa[show k-1+1=k from by omega] at hm)
   ·simp only[go_sem,eqF (show((out[k-1]:Nat):Int)≠0 by omega),h3]
    refine fun _=>fin fun x hl=> ?_
    rw[List.getLast?_eq_getElem?,List.length_take,Nat.min_eq_left hk1,List.getElem?_take,if_pos (by omega),List.getElem?_eq_getElem (by omega)] at hl
    injection hl with hl
    omega
theorem rSame_calls {v u:AV} {x:Nat} {h:H} {K:AV→H→Prop} (nv:Num 4294967296 h v x) (hx:Big x) (nu:Nt h u x)
  (hk:∀h',h'.wf→h.le h'→K (.bool true) h'):ACalls Try.prog 37 [v,u] h K:=by
 refine in_ref02_Same (by simp) fun hw=> ?_
 unfold c_ref02_Same
 simp only[go_sem]
 refine To_calls nv hx fun r h1 hw1 hl1 hr=> ?_
 obtain⟨xs,hr1,hr2,hr3,hr4⟩:=hr
 obtain⟨ys,hu,hyd,hyt,hyv⟩:=nu
 have e:ys=xs:=top_inj hyd hr2 hyt hr3 (by rw[hyv,hr4])
 subst e
 have hyl:ys.length≤wordL:=by rw[top_len hyd hyt,hyv];exact wlen_big hx
 rw[wordL_eq] at hyl
 obtain⟨id,off,c,rfl⟩:=hu.form
 have hrn:=hr1.isN
 obtain⟨id',off',c',rfl⟩:=hrn.form
 have hu1:=hu.mono hl1
 simp only[go_sem,neF (show(ys.length:Int)=ys.length from rfl)]
 refine for_rule (fun i ρ h'=>i≤ys.length∧h'=h1∧ρ 1= .sl id off ys.length c∧ρ 5= .sl id' off' ys.length c'∧ρ 6= .int .i64 (i:Int)) ys.length ⟨by omega,rfl,rfl,rfl,rfl⟩ (fun i ρ h hI=>hI.1) ?_
 rintro i ρ h' ⟨hi,rfl,q1,q5,q6⟩
 rcases Nat.lt_or_ge i ys.length with hlt|hge
 ·obtain⟨j,rfl,_,hg⟩:=hrn.at hlt
  obtain⟨j2,rfl,_,hg2⟩:=hu1.at hlt
  simp only[go_sem,q1,q5,q6,ltT hlt]
  refine⟨by omega,by omega, ?_⟩
  simp only[go_sem,hg,q1,q6]
  refine⟨by omega,by omega, ?_⟩
  simp only[go_sem,hg2,neF (show((ys[i]:Nat):Int)=(ys[i]:Nat) from rfl),q6,incI (i:=i) (by omega)]
  exact⟨by omega,by first|rfl|trivial|assumption,by first|rfl|trivial|assumption,by first|rfl|trivial|assumption,by first|rfl|trivial|assumption⟩
 ·have:i=ys.length:=by omega
  subst this
  simp only[go_sem,q1,q5,q6,ltF (Nat.le_refl ys.length)]
  exact fun hw'=>hk h' hw' hl1
theorem learn {P:Program} {f:FuncId} {n i:Nat} {c:Option Nat} {r:Row} {h:H} {K:AV→H→Prop} (hr:h.rows i=some r) (ho:r.own≠none) (hz:r.esz=1)
  (hx:∀c':Nat,n≤c'→r.cells.length≤c'→c'≤maxLen→ACalls P f [.sl (some i) 0 n (some c')] (h.set i {r with cells:=r.cells++List.replicate (c'-r.cells.length) .junk}) K):ACalls P f [.sl (some i) 0 n c] h K:=by
 intro base w0 μ w vs R hrel
 obtain⟨v,vs',rfl,r1,r2⟩:=hrel.inv
 obtain rfl:=r2.inv_nil
 cases r1 with
 | @sl _ _ _ _ p cap A hp hA hl hc ht=>
  obtain⟨q,hq,hR⟩:=R.row i r hr
  rw[hp] at hq
  injection hq with hq
  subst hq
  obtain⟨t,hown⟩:∃t,r.own=some t:=Option.ne_none_iff_exists'.1 ho
  have hR':=hR
  unfold RowRep at hR'
  simp only[hown] at hR'
  obtain⟨g,cur,e1,e2,e3,e4,e5,e6,e7,e8⟩:=hR'
  have hcap:=ht _ e5
  rw[e3,hz,Nat.mul_one,Nat.zero_add] at hcap
  have hlen:(r.cells++List.replicate (cap-r.cells.length) AV.junk).length≤cur.size:=by simp;omega
  have R2:=R.write (w':=w) hr hown hp (cur:=cur) (cur':=cur) (by rw[e1];exact e4) (by rw[e1];exact e4) rfl (fun _ _=>rfl) rfl rfl rfl rfl hlen (fun j u hu=>by
   rcases Nat.lt_or_ge j r.cells.length with hj|hj
   ·rw[List.getElem?_append_left hj] at hu
    exact e8 j u hu
   ·have hjl:j<(r.cells++List.replicate (cap-r.cells.length) AV.junk).length:=(List.getElem?_eq_some_iff.1 hu).1
    rw[List.getElem?_append_right hj,List.getElem?_replicate] at hu
    split at hu
    ·injection hu with hu
     subst hu
     exact⟨cur[j]'(by omega),Array.getElem?_eq_getElem (by omega), .junk _⟩
    ·cases hu)
  have hmx:cap≤maxLen:=by rw[hz,Nat.mul_one] at e6;omega
  exact hx cap hl (by omega) hmx base w0 μ w _ R2 ((RelA.nil μ).cons (Rel.sl hp hA hl (fun x hx=>by injection hx with hx;exact hx.symm) ht))
theorem learn0 {P:Program} {f:FuncId} {c:Option Nat} {h:H} {K:AV→H→Prop} (hx:ACalls P f [.sl none 0 0 (some 0)] h K):ACalls P f [.sl none 0 0 c] h K:=by
 intro base w0 μ w vs R hrel
 obtain⟨v,vs',rfl,r1,r2⟩:=hrel.inv
 obtain rfl:=r2.inv_nil
 cases r1 with
 |snil hc=>exact hx base w0 μ w _ R ((RelA.nil μ).cons (Rel.snil (fun x hx=>by injection hx with hx;omega)))
def Own (b:Nat) (h:H) (v:AV):Prop:=∃id n c,v= .sl id 0 n c∧((id=none∧n=0)∨∃i r,id=some i∧b≤i∧h.rows i=some r∧r.own≠none∧r.esz=1)
theorem Nf.own {b:Nat} {h:H} {v:AV} {x:Nat} (hv:Nf b h v x):Own b h v:=by
 obtain⟨xs,⟨id,c,rfl,h1⟩,_⟩:=hv
 refine⟨id,_,c,rfl, ?_⟩
 rcases h1 with⟨rfl,e⟩|⟨i,r,rfl,hb,hr,ho,hz,_⟩
 ·exact .inl ⟨rfl,by rw[e];rfl⟩
 ·exact .inr ⟨i,r,rfl,hb,hr,by rw[ho];simp,hz⟩
theorem Own.set {b:Nat} {h:H} {v:AV} {k:Nat} {r q:Row} (hv:Own b h v) (hr:h.rows k=some r) (h1:q.own=r.own) (h2:q.esz=r.esz):Own b (h.set k q) v:=by
 obtain⟨id,n,c,rfl,h3⟩:=hv
 refine⟨id,n,c,rfl, ?_⟩
 rcases h3 with h3|⟨i,p,rfl,hb,hp,ho,hz⟩
 ·exact .inl h3
 ·by_cases e:i=k
  ·subst e
   rw[hp] at hr
   injection hr with hr
   subst hr
   exact .inr ⟨i,q,rfl,hb,H.rows_set _ _ _,by rw[h1];exact ho,by rw[h2];exact hz⟩
  ·exact .inr ⟨i,p,rfl,hb,by rw[H.rows_set_ne e];exact hp,ho,hz⟩
theorem kSame_calls {v u:AV} {xs:List Nat} {h:H} {K:AV→H→Prop} (hv:IsN h v xs) (hu:IsN h u xs) (hl:xs.length<4611686018427387904) (hk:K (.bool true) h):ACalls Try.prog 8 [v,u] h K:=by
 obtain⟨id,off,c,rfl⟩:=hv.form
 obtain⟨id',off',c',rfl⟩:=hu.form
 refine in_keep_Same (by simp) fun hw=> ?_
 unfold c_keep_Same
 simp only[go_sem,neF (show(xs.length:Int)=xs.length from rfl)]
 refine for_rule (fun i ρ h'=>i≤xs.length∧h'=h∧ρ 0= .sl id off xs.length c∧ρ 1= .sl id' off' xs.length c'∧ρ 5= .int .i64 (i:Int)) xs.length ⟨by omega,rfl,rfl,rfl,rfl⟩ (fun i ρ h hI=>hI.1) ?_
 rintro i ρ h' ⟨hi,rfl,q0,q1,q5⟩
 rcases Nat.lt_or_ge i xs.length with hlt|hge
 ·obtain⟨j,rfl,_,hg⟩:=hv.at hlt
  obtain⟨j2,rfl,_,hg2⟩:=hu.at hlt
  simp only[go_sem,q0,q1,q5,ltT hlt]
  refine⟨by omega,by omega, ?_⟩
  simp only[go_sem,hg,q1,q5]
  refine⟨by omega,by omega, ?_⟩
  simp only[go_sem,hg2,neF (show((xs[i]:Nat):Int)=(xs[i]:Nat) from rfl),q5,incI (i:=i) (by omega)]
  exact⟨by omega,by first|rfl|trivial|assumption,by first|rfl|trivial|assumption,by first|rfl|trivial|assumption,by first|rfl|trivial|assumption⟩
 ·simp only[go_sem,q0,q1,q5,ltF hge]
  exact fun _=>hk
theorem putAt_len {l m:List AV} {k:Nat} (h:k+m.length≤l.length):(putAt l k m).length=l.length:=by simp[putAt];omega
theorem putAt_get {l m:List AV} {k i:Nat} (h:k+m.length≤l.length):(putAt l k m)[i]? =if k≤i∧i<k+m.length then m[i-k]? else l[i]? :=by
 unfold putAt
 have hm:min k l.length=k:=by omega
 rcases Nat.lt_or_ge i k with h1|h1
 ·rw[if_neg (by omega),List.append_assoc,List.getElem?_append_left (by simp;omega),List.getElem?_take,if_pos h1]
 ·rcases Nat.lt_or_ge i (k+m.length) with h2|h2
  ·rw[if_pos ⟨h1,h2⟩,List.append_assoc,List.getElem?_append_right (by simp;omega),List.getElem?_append_left (by simp;omega)]
   simp[hm]
  ·rw[if_neg (by omega),List.getElem?_append_right (by simp;omega),List.getElem?_drop]
   congr 1
   simp[hm]
   omega
def IsC (z:Nat) (h:H) (v:AV) (n:Nat) (cs:List AV):Prop:=
 cs.length=n*z∧∃id off c,v= .sl id off n c∧((id=none∧n=0∧off=0)∨∃i r,id=some i∧h.rows i=some r∧(r.own=none∨r.esz=z)∧off+n*z≤r.cells.length∧(r.cells.drop off).take (n*z)=cs)
def IsCF (t:TypeId) (z b:Nat) (h:H) (v:AV) (n:Nat) (cs:List AV):Prop:=
 cs.length=n*z∧∃id c,v= .sl id 0 n c∧((id=none∧n=0)∨∃i r,id=some i∧b≤i∧h.rows i=some r∧r.own=some t∧r.esz=z∧n*z≤r.cells.length∧r.cells.take (n*z)=cs)
theorem IsCF.isC {t:TypeId} {z b n:Nat} {h:H} {v:AV} {cs:List AV} (hv:IsCF t z b h v n cs):IsC z h v n cs:=by
 obtain⟨hl,id,c,rfl,h1⟩:=hv
 refine⟨hl,id,0,c,rfl, ?_⟩
 rcases h1 with⟨rfl,rfl⟩|⟨i,r,rfl,_,hr,_,he,hf,ht⟩
 ·exact .inl ⟨rfl,rfl,rfl⟩
 ·exact .inr ⟨i,r,rfl,hr, .inr he,by omega,by simpa using ht⟩
theorem IsC.mono {z n:Nat} {h h':H} {v:AV} {cs:List AV} (hv:IsC z h v n cs) (hl:h.le h'):IsC z h' v n cs:=by
 obtain⟨h0,id,off,c,rfl,h1⟩:=hv
 refine⟨h0,id,off,c,rfl, ?_⟩
 rcases h1 with h1|⟨i,r,rfl,hr,h2⟩
 ·exact .inl h1
 ·exact .inr ⟨i,r,rfl,hl.2 i r hr,h2⟩
theorem IsCF.mono {t:TypeId} {z b n:Nat} {h h':H} {v:AV} {cs:List AV} (hv:IsCF t z b h v n cs) (hl:h.le h'):IsCF t z b h' v n cs:=by
 obtain⟨h0,id,c,rfl,h1⟩:=hv
 refine⟨h0,id,c,rfl, ?_⟩
 rcases h1 with h1|⟨i,r,rfl,hb,hr,h2⟩
 ·exact .inl h1
 ·exact .inr ⟨i,r,rfl,hb,hl.2 i r hr,h2⟩
theorem IsCF.nil (t:TypeId) (z b:Nat) (h:H) (c:Option Nat):IsCF t z b h (.sl none 0 0 c) 0 []:=⟨by simp,none,c,rfl, .inl ⟨rfl,rfl⟩⟩
theorem IsC.nil (z:Nat) (h:H) (c:Option Nat):IsC z h (.sl none 0 0 c) 0 []:=⟨by simp,none,0,c,rfl, .inl ⟨rfl,rfl,rfl⟩⟩
theorem IsC.form {z n:Nat} {h:H} {v:AV} {cs:List AV} (hv:IsC z h v n cs):∃id off c,v= .sl id off n c:=by
 obtain⟨_,id,off,c,e,_⟩:=hv
 exact⟨id,off,c,e⟩
theorem IsC.row {z n m:Nat} {h:H} {id:Option Nat} {off:Nat} {c:Option Nat} {cs:List AV} (hv:IsC z h (.sl id off m c) n cs):∀i,id=some i→∃r,h.rows i=some r∧(r.own=none∨r.esz=z):=by
 obtain⟨_,id',off',c',e,h1⟩:=hv
 injection e with e1 e2 e3 e4
 subst e1
 rintro i rfl
 rcases h1 with⟨h0,_,_⟩|⟨i',r,h0,hr,he,_⟩
 ·cases h0
 ·injection h0 with h0
  subst h0
  exact⟨r,hr,he⟩
theorem IsC.at {z n m:Nat} {h:H} {id:Option Nat} {off:Nat} {c:Option Nat} {cs:List AV} (hv:IsC z h (.sl id off m c) n cs) {j:Nat} (hj:j<n*z):∃i,id=some i∧m=n∧h.get i (off+j)=cs[j]? :=by
 obtain⟨hl,id',off',c',e,h1⟩:=hv
 injection e with e1 e2 e3 e4
 subst e1;subst e2;subst e3;subst e4
 rcases h1 with⟨_,rfl,_⟩|⟨i,r,rfl,hr,_,hf,ht⟩
 ·simp at hj
 ·refine⟨i,rfl,rfl, ?_⟩
  rw[←ht,List.getElem?_take,if_pos hj,List.getElem?_drop]
  simp[H.get,hr]
theorem IsC.ats {z n m:Nat} {h:H} {id:Option Nat} {off:Nat} {c:Option Nat} {cs:List AV} (hv:IsC z h (.sl id off m c) n cs) {j w:Nat} (hj:j+w≤n*z) (hw:0<w):∃i,id=some i∧m=n∧h.gets i (off+j) w=some ((cs.drop j).take w):=by
 obtain⟨hl,id',off',c',e,h1⟩:=hv
 injection e with e1 e2 e3 e4
 subst e1;subst e2;subst e3;subst e4
 rcases h1 with⟨_,rfl,_⟩|⟨i,r,rfl,hr,_,hf,ht⟩
 ·simp at hj;omega
 ·refine⟨i,rfl,rfl, ?_⟩
  simp only[H.gets,hr,Option.bind_some]
  rw[if_pos (by omega),←ht,List.drop_take,List.take_take,List.drop_drop,Nat.min_eq_left (by omega)]
theorem IsC.cut {z n m:Nat} {h:H} {id:Option Nat} {off:Nat} {c c':Option Nat} {cs:List AV} (hv:IsC z h (.sl id off m c) n cs) {a b:Nat} (hab:a≤b) (hb:b≤n):IsC z h (.sl id (off+a*z) (b-a) c') (b-a) ((cs.take (b*z)).drop (a*z)):=by
 obtain⟨hl,id',off',c2,e,h1⟩:=hv
 injection e with e1 e2 e3 e4
 subst e1;subst e2;subst e3
 have q1:a*z≤b*z:=Nat.mul_le_mul_right _ hab
 have q2:b*z≤m*z:=Nat.mul_le_mul_right _ hb
 have q3:(b-a)*z=b*z-a*z:=Nat.sub_mul _ _ _
 refine⟨by simp;omega,id,off+a*z,c',rfl, ?_⟩
 rcases h1 with⟨rfl,rfl,rfl⟩|⟨i,r,rfl,hr,he,hf,ht⟩
 ·have:b=0:=by omega
  subst this
  have:a=0:=by omega
  subst this
  exact .inl ⟨rfl,rfl,by simp⟩
 ·refine .inr ⟨i,r,rfl,hr,he,by omega, ?_⟩
  rw[q3,←ht,List.take_take,Nat.min_eq_left q2,List.drop_take,List.drop_drop]
theorem IsCF.cut {t:TypeId} {z b n m:Nat} {h:H} {id:Option Nat} {c c':Option Nat} {cs:List AV} (hv:IsCF t z b h (.sl id 0 m c) n cs) {k:Nat} (hk:k≤n):IsCF t z b h (.sl id 0 k c') k (cs.take (k*z)):=by
 obtain⟨hl,id',c2,e,h1⟩:=hv
 injection e with e1 e2 e3 e4
 subst e1;subst e3
 have q:k*z≤m*z:=Nat.mul_le_mul_right _ hk
 refine⟨by simp;omega,id,c',rfl, ?_⟩
 rcases h1 with⟨rfl,rfl⟩|⟨i,r,rfl,hbi,hr,ho,he,hf,ht⟩
 ·exact .inl ⟨rfl,by omega⟩
 ·exact .inr ⟨i,r,rfl,hbi,hr,ho,he,by omega,by rw[←ht,List.take_take,Nat.min_eq_left q]⟩
theorem IsCF.put {t:TypeId} {z b n m:Nat} {h:H} {id:Option Nat} {c:Option Nat} {cs:List AV} (hw:h.wf) (hv:IsCF t z b h (.sl id 0 m c) n cs) {k w:Nat} (hk:k+w≤n*z) (hw0:0<w):∃i r,id=some i∧b≤i∧i<h.next∧h.rows i=some r∧r.own≠none∧m=n∧k+w≤r.cells.length∧
  ∀l:List AV,l.length=w→IsCF t z b (h.set i {r with cells:=putAt r.cells k l}) (.sl id 0 m c) n (putAt cs k l):=by
 obtain⟨hl,id',c2,e,h1⟩:=hv
 injection e with e1 e2 e3 e4
 subst e1;subst e3;subst e4
 rcases h1 with⟨_,rfl⟩|⟨i,r,rfl,hbi,hr,ho,he,hf,ht⟩
 ·simp at hk;omega
 ·refine⟨i,r,rfl,hbi,H.row_lt hw hr,hr,by rw[ho];simp,rfl,by omega,fun l hll=> ?_⟩
  refine⟨by rw[putAt_len (by omega)];exact hl,some i,c,rfl, .inr ⟨i,_,rfl,hbi,H.rows_set _ _ _,ho,he, ?_, ?_⟩⟩
  ·show m*z≤(putAt r.cells k l).length
   rw[putAt_len (by omega)]
   exact hf
  ·show(putAt r.cells k l).take (m*z)=_
   apply List.ext_getElem?
   intro j
   rw[List.getElem?_take,putAt_get (by omega),putAt_get (by omega),←ht,List.getElem?_take]
   by_cases hj:j<m*z
   ·rw[if_pos hj,if_pos hj]
   ·rw[if_neg hj,if_neg hj,if_neg (by omega)]
theorem zs_len {z n:Nat} {zero:List AV} (h:zero.length=z):(zs zero n).length=n*z:=by
 subst h
 unfold zs
 split
 ·simp
 ·simp
theorem IsCF.made {t:TypeId} {z b:Nat} {h:H} {zero:List AV} (hb:b≤h.next) (hz:zero.length=z) (n:Nat):IsCF t z b (h.new ⟨some t,z,zs zero n⟩) (.sl (some h.next) 0 n (some n)) n (zs zero n):=
 ⟨zs_len hz,some h.next,some n,rfl, .inr ⟨h.next,_,rfl,hb,H.rows_new _ _,rfl,rfl,Nat.le_of_eq (zs_len hz).symm,List.take_of_length_le (Nat.le_of_eq (zs_len hz))⟩⟩
section
set_option maxRecDepth 100000
def AllC {α:Type} (z:Nat) (R:List AV→α→Prop) (cs:List AV) (xs:List α):Prop:=cs.length=xs.length*z∧∀(j:Nat) (x:α),xs[j]? =some x→R ((cs.drop (j*z)).take z) x
theorem AllC.nil {α:Type} (z:Nat) (R:List AV→α→Prop):AllC z R [] []:=⟨by simp,fun _ _ h=>by simp at h⟩
theorem AllC.mono {α:Type} {z:Nat} {R R':List AV→α→Prop} {cs:List AV} {xs:List α} (h:AllC z R cs xs) (hr:∀c x,R c x→R' c x):AllC z R' cs xs:=⟨h.1,fun j x h1=>hr _ x (h.2 j x h1)⟩
theorem AllC.snoc {α:Type} {z:Nat} {R:List AV→α→Prop} {cs l:List AV} {xs:List α} (h:AllC z R cs xs) {x:α} (hz:l.length=z) (hc:R l x):AllC z R (cs++l) (xs++[x]):=by
 refine⟨by simp[h.1,hz,Nat.add_mul],fun j x' h2=> ?_⟩
 rcases Nat.lt_or_ge j xs.length with hj|hj
 ·rw[List.getElem?_append_left hj] at h2
  have h3:j*z+z≤cs.length:=by rw[h.1,←Nat.succ_mul];exact Nat.mul_le_mul_right _ hj
  rw[List.drop_append_of_le_length (by omega),List.take_append_of_le_length (by simp;omega)]
  exact h.2 j x' h2
 ·rw[List.getElem?_append_right hj] at h2
  rcases hjj:j-xs.length with _|k
  ·rw[hjj] at h2
   simp at h2
   subst h2
   have:j=xs.length:=by omega
   rw[this,←h.1,List.drop_left,List.take_of_length_le (by omega)]
   exact hc
  ·rw[hjj] at h2
   simp at h2
theorem chunk_le {j n z:Nat} (h:j<n):j*z+z≤n*z:=by rw[←Nat.succ_mul];exact Nat.mul_le_mul_right _ h
theorem AllC.drop {α:Type} {z:Nat} {R:List AV→α→Prop} {cs:List AV} {xs:List α} (h:AllC z R cs xs) (n:Nat):AllC z R (cs.drop (n*z)) (xs.drop n):=by
 refine⟨by simp[h.1,Nat.sub_mul],fun j x h2=> ?_⟩
 rw[List.getElem?_drop] at h2
 rw[List.drop_drop,←Nat.add_mul]
 exact h.2 _ x h2
theorem AllC.take {α:Type} {z:Nat} {R:List AV→α→Prop} {cs:List AV} {xs:List α} (h:AllC z R cs xs) (n:Nat):AllC z R (cs.take (n*z)) (xs.take n):=by
 refine⟨?_,fun j x h2=> ?_⟩
 ·simp only[List.length_take,h.1]
  rcases Nat.le_total n xs.length with h1|h1
  ·have:=Nat.mul_le_mul_right z h1
   rw[Nat.min_eq_left this,Nat.min_eq_left h1]
  ·have:=Nat.mul_le_mul_right z h1
   rw[Nat.min_eq_right this,Nat.min_eq_right h1]
 ·rw[List.getElem?_take] at h2
  split at h2
  ·rename_i hj
   have:=chunk_le (z:=z) hj
   rw[List.drop_take,List.take_take,Nat.min_eq_left (by omega)]
   exact h.2 j x h2
  ·cases h2
theorem AllC.set {α:Type} {z:Nat} {R:List AV→α→Prop} {cs l:List AV} {xs:List α} (h:AllC z R cs xs) {j:Nat} {x:α} (hj:j<xs.length) (hz:l.length=z) (hc:R l x):AllC z R (putAt cs (j*z) l) (xs.set j x):=by
 have h0:=chunk_le (z:=z) hj
 have hl:=h.1
 refine⟨by rw[putAt_len (by omega),List.length_set];exact hl,fun k y h2=> ?_⟩
 rw[List.getElem?_set] at h2
 have ext:∀m,(((putAt cs (j*z) l).drop (k*z)).take z)[m]? =if m<z then(if j*z≤k*z+m∧k*z+m<j*z+z then l[k*z+m-j*z]? else cs[k*z+m]?) else none:=by
  intro m
  rw[List.getElem?_take]
  split
  ·rw[List.getElem?_drop,putAt_get (by omega),hz]
  ·rfl
 split at h2
 ·rename_i e
  subst e
  injection h2 with h2
  subst h2
  have:((putAt cs (j*z) l).drop (j*z)).take z=l:=by
   apply List.ext_getElem?
   intro m
   rw[ext m]
   split
   ·rw[if_pos (by omega),show j*z+m-j*z=m by omega]
   ·rw[List.getElem?_eq_none (by omega)]
  rw[this]
  exact hc
 ·rename_i hne
  have hk:k<xs.length:=(List.getElem?_eq_some_iff.1 h2).1
  have:((putAt cs (j*z) l).drop (k*z)).take z=(cs.drop (k*z)).take z:=by
   apply List.ext_getElem?
   intro m
   rw[ext m,List.getElem?_take,List.getElem?_drop]
   split
   ·rename_i hm
    rw[if_neg]
    rcases Nat.lt_or_gt_of_ne hne with h3|h3
    ·have:=chunk_le (z:=z) h3;omega
    ·have:=chunk_le (z:=z) h3;omega
   ·rfl
  rw[this]
  exact h.2 k y h2
def IsA {α:Type} (z:Nat) (R:H→List AV→α→Prop) (h:H) (v:AV) (xs:List α):Prop:=∃cs,IsC z h v xs.length cs∧AllC z (R h) cs xs
def Grows {α:Type} (R:H→List AV→α→Prop):Prop:=∀⦃h h':H⦄ ⦃c:List AV⦄ ⦃x:α⦄,R h c x→h.le h'→R h' c x
theorem IsA.form {α:Type} {z:Nat} {R:H→List AV→α→Prop} {h:H} {v:AV} {xs:List α} (hv:IsA z R h v xs):∃id off c,v= .sl id off xs.length c:=by
 obtain⟨cs,h1,_⟩:=hv
 exact h1.form
theorem IsA.mono {α:Type} {z:Nat} {R:H→List AV→α→Prop} (hR:Grows R) {h h':H} {v:AV} {xs:List α} (hv:IsA z R h v xs) (hl:h.le h'):IsA z R h' v xs:=by
 obtain⟨cs,h1,h2⟩:=hv
 exact⟨cs,h1.mono hl,h2.mono fun c x hc=>hR hc hl⟩
theorem take_one {l:List AV} {j:Nat} (h:j<l.length):(l.drop j).take 1=[l[j]]:=by
 rw[List.drop_eq_getElem_cons h]
 rfl
theorem IsA.at1 {α:Type} {R:H→List AV→α→Prop} {h:H} {id:Option Nat} {off n:Nat} {c:Option Nat} {xs:List α} (hv:IsA 1 R h (.sl id off n c) xs) {j:Nat} (hj:j<xs.length):∃i a,id=some i∧n=xs.length∧h.get i (off+j)=some a∧R h [a] xs[j]:=by
 obtain⟨cs,h1,h2⟩:=hv
 obtain⟨i,e1,e2,e3⟩:=h1.at (j:=j) (by omega)
 have hl:=h2.1
 have h3:=h2.2 j _ (List.getElem?_eq_getElem hj)
 rw[Nat.mul_one,take_one (by omega)] at h3
 exact⟨i,cs[j],e1,e2,e3.trans (List.getElem?_eq_getElem (by omega)),h3⟩
theorem IsA.atz {α:Type} {z:Nat} {R:H→List AV→α→Prop} {h:H} {id:Option Nat} {off n:Nat} {c:Option Nat} {xs:List α} (hz:0<z) (hv:IsA z R h (.sl id off n c) xs) {j:Nat} (hj:j<xs.length):∃i l,id=some i∧n=xs.length∧l.length=z∧h.gets i (off+j*z) z=some l∧(∀k,k<z→h.get i (off+j*z+k)=l[k]?)∧R h l xs[j]:=by
 obtain⟨cs,h1,h2⟩:=hv
 have h0:=chunk_le (z:=z) hj
 obtain⟨i,e1,e2,e3⟩:=h1.ats (j:=j*z) (w:=z) (by omega) hz
 have hl:=h2.1
 refine⟨i,_,e1,e2,by simp;omega,e3,fun k hk=> ?_,h2.2 j _ (List.getElem?_eq_getElem hj)⟩
 obtain⟨i',f1,_,f3⟩:=h1.at (j:=j*z+k) (by omega)
 rw[e1] at f1
 injection f1 with f1
 subst f1
 rw[Nat.add_assoc,f3,List.getElem?_take,if_pos hk,List.getElem?_drop]
theorem IsA.row {α:Type} {z:Nat} {R:H→List AV→α→Prop} {h:H} {id:Option Nat} {off n:Nat} {c:Option Nat} {xs:List α} (hv:IsA z R h (.sl id off n c) xs):∀i,id=some i→∃r,h.rows i=some r∧(r.own=none∨r.esz=z):=by
 obtain⟨cs,h1,_⟩:=hv
 exact h1.row
theorem IsA.nil {α:Type} (z:Nat) (R:H→List AV→α→Prop) (h:H) (c:Option Nat):IsA z R h (.sl none 0 0 c) []:=⟨[],IsC.nil _ _ _,AllC.nil _ _⟩
theorem IsA.cut {α:Type} {z n:Nat} {R:H→List AV→α→Prop} {h:H} {id:Option Nat} {off:Nat} {c c':Option Nat} {xs:List α} (hv:IsA z R h (.sl id off n c) xs) {a b:Nat} (hab:a≤b) (hb:b≤xs.length):IsA z R h (.sl id (off+a*z) (b-a) c') ((xs.take b).drop a):=by
 obtain⟨cs,h1,h2⟩:=hv
 refine⟨_, ?_,(h2.take b).drop a⟩
 have hl:((xs.take b).drop a).length=b-a:=by simp;omega
 rw[hl]
 exact h1.cut (c':=c') hab hb
def Live {α:Type} (t:TypeId) (z b:Nat) (R:H→List AV→α→Prop) (h:H) (v:AV) (xs:List α):Prop:=∃io c cs,v= .sl io 0 xs.length c∧IsCF t z b h v xs.length cs∧AllC z (R (h.del io)) cs xs
theorem H.del_le {h:H} (o:Option Nat):(h.del o).le h:=⟨Nat.le_refl _,fun i r e=>by
 simp only[H.del] at e
 split at e
 ·cases e
 ·exact e⟩
theorem H.del_mono {h h':H} (hl:h.le h') (o:Option Nat):(h.del o).le (h'.del o):=⟨hl.1,fun i r e=>by
 simp only[H.del] at e⊢
 split at e
 ·cases e
 ·rename_i hi;rw[if_neg hi];exact hl.2 i r e⟩
theorem H.get_le {a h:H} (hl:a.le h) {i j:Nat} {v:AV} (e:a.get i j=some v):h.get i j=some v:=by
 unfold H.get at*
 cases hr:a.rows i with
 |none=>rw[hr] at e;cases e
 |some r=>rw[hr] at e;rw[hl.2 _ _ hr];exact e
theorem Live.nil {α:Type} (t:TypeId) (z b:Nat) (R:H→List AV→α→Prop) (h:H) (c:Option Nat):Live t z b R h (.sl none 0 0 c) []:=⟨none,c,[],rfl,IsCF.nil _ _ _ _ _,AllC.nil _ _⟩
theorem Live.form {α:Type} {t:TypeId} {z b:Nat} {R:H→List AV→α→Prop} {h:H} {v:AV} {xs:List α} (hv:Live t z b R h v xs):∃io c,v= .sl io 0 xs.length c:=by
 obtain⟨io,c,cs,e,_⟩:=hv
 exact⟨io,c,e⟩
theorem Live.isA {α:Type} {t:TypeId} {z b:Nat} {R:H→List AV→α→Prop} (hR:Grows R) {h:H} {v:AV} {xs:List α} (hv:Live t z b R h v xs):IsA z R h v xs:=by
 obtain⟨io,c,cs,e,h1,h2⟩:=hv
 exact⟨cs,h1.isC,h2.mono fun l x hx=>hR hx (H.del_le io)⟩
theorem Live.mono {α:Type} {t:TypeId} {z b:Nat} {R:H→List AV→α→Prop} (hR:Grows R) {h h':H} {v:AV} {xs:List α} (hv:Live t z b R h v xs) (hl:h.le h'):Live t z b R h' v xs:=by
 obtain⟨io,c,cs,e,h1,h2⟩:=hv
 exact⟨io,c,cs,e,h1.mono hl,h2.mono fun l x hx=>hR hx (H.del_mono hl io)⟩
theorem Live.app {α:Type} {t:TypeId} {z:Nat} {R:H→List AV→α→Prop} (hR:Grows R) {a h h2:H} {K:AV→H→Prop} {io:Option Nat} {co:Option Nat} {l:List AV} {ys:List α} {y:α} {bt n:Nat} (hz:0<z) (ha:a.wf) (hw:h.wf) (hah:a.le h)
  (hs:Live t z a.next R h (.sl io 0 n co) ys) (hn:n=ys.length) (hx:R (h.del io) l y) (hlz:l.length=z) (h1:l.all (·.one)=true) (hbt:bt≤64) (hl:n+1≤1099511627776)
  (hh:h2=h.new ⟨some t,z,l⟩) (hk:∀v h',h'.wf→a.le h'→Live t z a.next R h' v (ys++[y])→K v h'):appK t z bt (.sl io 0 n co) (.sl (some h.next) 0 1 (some 1)) h2 K:=by
 subst hh
 subst hn
 obtain⟨io',co',cs,e,hs,hc⟩:=hs
 injection e with e1 e2 e3 e4
 subst e1;subst e4
 have hbb:=Nat.mul_le_mul hl hbt
 have hw2:=H.wf_new hw ⟨some t,z,l⟩
 have hs2:=hs.mono (H.le_new hw (H.le_refl h) ⟨some t,z,l⟩)
 have hah2:=H.le_new hw hah ⟨some t,z,l⟩
 obtain⟨hcl,id',c',e,h3⟩:=hs2
 injection e with e1 e2 e3 e4
 subst e1;subst e4
 have hnx:(h.new ⟨some t,z,l⟩).next=h.next+1:=rfl
 simp only[appK]
 refine⟨fun h0=>by omega,fun _=>⟨h.next,_,rfl,H.rows_new _ _, ?_, ?_,by omega,by omega, ?_⟩⟩
 ·show 0+1*z≤l.length
  omega
 ·show((l.drop 0).take (1*z)).all (·.one)=true
  rw[List.drop_zero,Nat.one_mul,List.take_of_length_le (by omega)]
  exact h1
 have et:((⟨some t,z,l⟩:Row).cells.drop 0).take (1*z)=l:=by
  show(l.drop 0).take (1*z)=l
  rw[List.drop_zero,Nat.one_mul,List.take_of_length_le (by omega)]
 rw[et]
 have hlen1:(ys++[y]).length=ys.length+1:=by simp
 rcases h3 with⟨rfl,h0⟩|⟨i,q,rfl,hbi,hq,ho,he,hf2,ht2⟩
 ·have hy:ys=[]:=List.eq_nil_of_length_eq_zero h0
  subst hy
  have:cs=[]:=List.eq_nil_of_length_eq_zero (by simpa using hcl)
  subst this
  refine .inl ⟨rfl,rfl,hk _ _ (H.wf_new hw2 _) (H.le_new hw2 hah2 _) ⟨some (h.next+1),none,[]++l,rfl, ?_, ?_⟩⟩
  ·exact⟨by simp[hlz],some (h.next+1),none,rfl, .inr ⟨h.next+1,_,rfl,by have:=hah.1;omega,H.rows_new _ _,rfl,rfl,by simp[hlz],List.take_of_length_le (by simp[hlz])⟩⟩
  ·refine(hc.snoc hlz hx).mono fun l' x' hx'=>hR hx' ⟨by show h.next≤h.next+1+1;omega,fun j r hj=> ?_⟩
   have hj':=(H.del_le none).2 j r hj
   have hlt:=H.row_lt hw hj'
   simp only[H.del]
   rw[if_neg (by intro e;injection e;omega),H.rows_new_ne (by rw[hnx];omega),H.rows_new_ne (by omega)]
   exact hj'
 ·have hil:=H.row_lt hw2 hq
  have hi2:i≠h.next:=by
   intro e
   obtain⟨_,id2,c2,e2,h4⟩:=hs
   injection e2 with e2
   rcases h4 with⟨h4,_⟩|⟨i2,q2,h4,_,h5,_⟩
   ·rw[←e2] at h4;cases h4
   ·rw[←e2] at h4
    injection h4 with h4
    have:=H.row_lt hw h5
    omega
  refine .inr ⟨i,q,rfl,hq,ho,he,by simp,hf2,hk _ _ (H.wf_new (H.wf_del hw2 _) _) (H.le_new (H.wf_del hw2 _) (H.le_del ha hah2 hbi) _) ⟨some (h.next+1),none,cs++l,by rw[hlen1];rfl, ?_, ?_⟩⟩
  ·refine⟨by simp[hcl,hlz,Nat.add_mul],some (h.next+1),none,by rw[hlen1];rfl, .inr ⟨h.next+1,_,rfl,by have:=hah.1;omega,H.rows_new _ _,rfl,rfl, ?_, ?_⟩⟩
   ·rw[hlen1]
    simp only[List.length_append,ht2,hcl,hlz,Nat.add_mul];omega
   ·rw[hlen1,ht2]
    exact List.take_of_length_le (by simp[hcl,hlz,Nat.add_mul])
  ·refine(hc.snoc hlz hx).mono fun l' x' hx'=>hR hx' ⟨by show h.next≤h.next+1+1;omega,fun j r hj=> ?_⟩
   have hj':=(H.del_le (some i)).2 j r hj
   have hlt:=H.row_lt hw hj'
   have hji:j≠i:=by
    rintro rfl
    simp[H.del] at hj
   simp only[H.del]
   rw[if_neg (by intro e;injection e;omega)]
   show((H.del _ (some i)).new _).rows j=some r
   rw[H.rows_new_ne (by rw[H.next_del,hnx];omega),H.rows_del_ne hji,H.rows_new_ne (by omega)]
   exact hj'
section
variable {h:H} {u:AV}
theorem cell_slice {t e:TypeId} (ht:Try.prog.underlying t=some (.slice e)) {l:List AV} (r:Reads Try.prog h t l):∃v n cs,l=[v]∧IsC (Try.prog.cellsOf e) h v n cs∧n≤maxLen∧∀i,i<n→Reads Try.prog h e ((cs.drop (i*Try.prog.cellsOf e)).take (Try.prog.cellsOf e)):=by
 cases r with
 |int ht' hw=>rw[ht] at ht';cases ht'
 |bool ht'=>rw[ht] at ht';cases ht'
 |str ht'=>rw[ht] at ht';cases ht'
 |snil ht'=>exact⟨_,0,[],rfl,IsC.nil _ _ _,by simp,fun i hi=>by omega⟩
 |struct ht'=>rw[ht] at ht';cases ht'
 | @sl _ e' id len r ht' hr ho hlen hl hall=>
  rw[ht] at ht'
  injection ht' with e1
  injection e1 with e1
  subst e1
  refine⟨_,len,r.cells,rfl,⟨hl,some id,0,none,rfl, .inr ⟨id,r,rfl,hr, .inl ho,by omega, ?_⟩⟩,hlen,hall⟩
  rw[List.drop_zero,List.take_of_length_le (by omega)]
theorem all_of {α:Type} {z:Nat} {R:List AV→α→Prop}:∀{n:Nat} {cs:List AV},cs.length=n*z→(∀i,i<n→∃x,R ((cs.drop (i*z)).take z) x)→∃xs:List α,xs.length=n∧AllC z R cs xs
 |0,cs,hl,_=>⟨[],rfl,by
  have:cs=[]:=List.eq_nil_of_length_eq_zero (by simpa using hl)
  subst this
  exact AllC.nil _ _⟩
 |n+1,cs,hl,hx=>by
  have h0:n*z+z=cs.length:=by rw[hl,Nat.succ_mul]
  obtain⟨xs,h1,h2⟩:=all_of (z:=z) (n:=n) (cs:=cs.take (n*z)) (R:=R) (by rw[List.length_take];omega) (fun i hi=>by
   obtain⟨x,hr⟩:=hx i (by omega)
   have:=chunk_le (z:=z) hi
   refine⟨x, ?_⟩
   rw[List.drop_take,List.take_take,Nat.min_eq_left (by omega)]
   exact hr)
  obtain⟨x,hr⟩:=hx n (by omega)
  have h3:=h2.snoc (l:=(cs.drop (n*z)).take z) (x:=x) (by simp;omega) hr
  refine⟨xs++[x],by simp[h1], ?_⟩
  rw[List.take_of_length_le (l:=cs.drop (n*z)) (by simp;omega),List.take_append_drop] at h3
  exact h3
end
theorem Live.io_lt {α:Type} {t:TypeId} {z b n:Nat} {R:H→List AV→α→Prop} {h:H} {io c:Option Nat} {xs:List α} (hw:h.wf) (hv:Live t z b R h (.sl io 0 n c) xs):∀i,io=some i→i<h.next:=by
 obtain⟨io',c',cs,e,⟨_,id,c2,e2,h3⟩,_⟩:=hv
 injection e2 with e2
 subst e2
 rintro i rfl
 rcases h3 with⟨h3,_⟩|⟨i',q,h3,_,hq,_⟩
 ·cases h3
 ·injection h3 with h3
  subst h3
  exact H.row_lt hw hq
end
theorem loop_cut2 {P:Program} {c:AC} {id id2:Nat} {next:Env→H→Prop} {Q:Post} {ρ:Env} {h:H} (M:Env→H→Prop) (h1:awp P (.loop c) (ablk id (ablk id2 (onN M Q))) ρ h) (h2:∀ρ h,M ρ h→next ρ h):awp P (.loop c) (ablk id (ablk id2 (athen next Q))) ρ h:=by
 have key:∀e ρ h,ablk id2 (onN M Q) e ρ h→ablk id2 (athen next Q) e ρ h:=by
  intro e ρ h hh
  cases e with
  |exit id'=>
   simp only[ablk] at hh⊢
   split
   ·rename_i hi;rw[if_pos hi] at hh;exact h2 _ _ hh
   ·rename_i hi;rw[if_neg hi] at hh;exact hh
  |normal=>exact h2 _ _ hh
  |_=>exact hh
 refine awp_mono (fun e ρ h hh=> ?_) h1
 cases e with
 |exit id'=>
  simp only[ablk] at hh⊢
  split
  ·rename_i hi;rw[if_pos hi] at hh;exact key .normal ρ h hh
  ·rename_i hi;rw[if_neg hi] at hh;exact key (.exit id') ρ h hh
 |normal=>exact key .normal ρ h hh
 |ret=>exact key .ret ρ h hh
 |goto l=>exact key (.goto l) ρ h hh
 |panic l=>exact key (.panic l) ρ h hh
 |outgrown=>exact key .outgrown ρ h hh
theorem lt_bigW {x k:Nat} (h:x<18446744073709551616^k) (hk:k≤400000):Big x:=lt_big64 h (by omega)
theorem Nf.one {b x:Nat} {h:H} {v:AV} (hv:Nf b h v x):v.one=true:=by
 obtain⟨xs,h1,_⟩:=hv
 obtain⟨id,c,rfl⟩:=h1.form
 rfl
theorem Nn.one {x:Nat} {h:H} {v:AV} (hv:Nn h v x):v.one=true:=by
 obtain⟨xs,h1,_⟩:=hv
 obtain⟨id,off,c,rfl⟩:=h1.form
 rfl
def p3 (k:Nat):Nat:=match k with
 |0=>180143985094819841
 |1=>1945555039024054273
 |_=>4179340454199820289
theorem IsA.imp {α:Type} {z:Nat} {R R':H→List AV→α→Prop} {h:H} {v:AV} {xs:List α} (hv:IsA z R h v xs) (hr:∀c x,R h c x→R' h c x):IsA z R' h v xs:=by
 obtain⟨cs,h1,h2⟩:=hv
 exact⟨cs,h1,h2.mono hr⟩
theorem wbig {x n:Nat} (hx:wlen x≤n) (h:n≤400000):Big x:=lt_bigW (wlen_le.1 hx) h
section
theorem two_B (k:Nat):18446744073709551616^k=2^(64*k):=by
 rw[Nat.pow_mul]
section
variable {va vb:AV} {x n:Nat} {h:H} {K:AV→H→Prop}
theorem nBits_calls (nv:Nn h va x) (hk:K (.int .i64 (blen x:Nat)) h):ACalls Try.prog 49 [va] h K:=by
 obtain⟨xs,hv,hd,hl,rfl⟩:=nv
 obtain⟨id,off,c,rfl⟩:=hv.form
 refine in_api_Nat_Bits (by simp) fun hw=> ?_
 unfold c_api_Nat_Bits
 simp only[go_sem]
 refine Len_calls hv hd (by omega) ?_
 have hle:=wlen_len hd
 rcases Nat.eq_zero_or_pos (wlen (val 18446744073709551616 xs)) with h0|h0
 ·have hz:=wlen_eq_zero.1 h0
  rw[hz] at hk
  simp only[go_sem,h0,eqT (show((0:Nat):Int)=0 from rfl)]
  exact fun _=>hk
 ·have hcut:=top_cut hd
  obtain⟨k,hk1⟩:∃k,wlen (val 18446744073709551616 xs)=k+1:=⟨wlen (val 18446744073709551616 xs)-1,by omega⟩
  rw[hk1] at hcut hle
  have hkl:k<xs.length:=by omega
  obtain⟨j,rfl,_,hg⟩:=hv.at hkl
  have hxb:=hd _ (List.getElem_mem hkl)
  have htk:=val_take_succ 18446744073709551616 xs k hkl
  have hlow:=val_lt_take 18446744073709551616 (by omega) xs hd k
  have hdiv:val 18446744073709551616 xs/2^(64*k)=xs[k]:=by
   rw[←hcut.2,htk,←two_B]
   rw[Nat.add_mul_div_left _ _ (Nat.pow_pos (by omega)),Nat.div_eq_of_lt hlow,Nat.zero_add]
  have e1:IntKind.i64.wrap (((k+1:Nat):Int)-1)=(k:Int):=(wI (by omega) (by omega)).trans (by omega)
  have e2:IntKind.i64.wrap (64*(k:Int))=((64*k:Nat):Int):=mulI (a:=64) (b:=k) (by omega)
  have hne:xs[k]≠0:=by
   refine hcut.1 _ ?_
   rw[List.take_succ_eq_append_getElem hkl]
   exact List.getLast?_concat ..
  simp only[go_sem,hk1,eqF (show((k+1:Nat):Int)≠0 by omega),e1,e2]
  refine⟨by omega,by omega, ?_⟩
  simp only[go_sem,Int.toNat_natCast,Nat.mul_one,hg]
  refine Len64_calls hxb fun L hL hbl=> ?_
  have hbl2:BL (val 18446744073709551616 xs) (64*k+L):=BL.up (by rw[hdiv];exact hbl) (hbl.pos (by omega))
  rw[BL.uniq (blen_spec _) hbl2] at hk
  simp only[go_sem,addI (a:=64*k) (b:=L) (by omega)]
  exact fun _=>hk
end
end
section
section
variable {e u m nw dp n d:Nat} {t:Tb} {vd:AV} {h:H} {K:AV→H→Prop}
theorem rNew_calls {t:Tb} {h:H} {K:AV→H→Prop} (hk:∀e u h',h'.wf→h.le h'→h.next≤u→u<e→Eng 6 h' e u→Tune h' u 0 0 0 (clampT t)→K (.ptr (some (e,0))) h'):ACalls Try.prog 100 [t.av] h K:=by
 refine in_recip_New (by simp) fun hw=> ?_
 unfold c_recip_New
 have hl1:=H.le_new hw (H.le_refl h) ⟨some 55,11,t.cells⟩
 have hn1:h.next<(h.new ⟨some 55,11,t.cells⟩).next:=Nat.lt_succ_self _
 simp only[go_sem,av_held,av_cells,cells_len,true_and,gsT (H.rows_new h _)]
 refine dNew_calls fun e u h1 hw1 hl2 hn2 _ he ht=> ?_
 simp only[go_sem,bldp]
 simp only[AV.held,AV.cells,true_and,go_sem]
 have hl3:=H.le_new hw1 (H.le_refl h1) ⟨some 154,1,[AV.ptr (some (e,0))]⟩
 exact fun hw'=>hk _ u _ hw' (H.le_trans hl1 (H.le_trans hl2 hl3)) (by omega) (H.row_lt hw1 ht) ⟨_,e,H.rows_new _ _,rfl,he.mono hl3⟩ (ht.mono hl3)
theorem diNew_calls {t:Tb} {h:H} {K:AV→H→Prop} (hk:∀e u h',h'.wf→h.le h'→h.next≤u→u<e→Eng 7 h' e u→Tune h' u 0 0 0 (clampT t)→K (.ptr (some (e,0))) h'):ACalls Try.prog 99 [t.av] h K:=by
 refine in_div_New (by simp) fun hw=> ?_
 unfold c_div_New
 have hl1:=H.le_new hw (H.le_refl h) ⟨some 55,11,t.cells⟩
 have hn1:h.next<(h.new ⟨some 55,11,t.cells⟩).next:=Nat.lt_succ_self _
 simp only[go_sem,av_held,av_cells,cells_len,true_and,gsT (H.rows_new h _)]
 refine rNew_calls fun e u h1 hw1 hl2 hn2 _ he ht=> ?_
 simp only[go_sem,bldp]
 simp only[AV.held,AV.cells,true_and,go_sem]
 have hl3:=H.le_new hw1 (H.le_refl h1) ⟨some 150,1,[AV.ptr (some (e,0))]⟩
 exact fun hw'=>hk _ u _ hw' (H.le_trans hl1 (H.le_trans hl2 hl3)) (by omega) (H.row_lt hw1 ht) ⟨_,e,H.rows_new _ _,rfl,he.mono hl3⟩ (ht.mono hl3)
end
end
theorem Live.app2 {α:Type} {t:TypeId} {z:Nat} {R:H→List AV→α→Prop} (hR:Grows R) {b:Nat} {h h2:H} {K:AV→H→Prop} {io:Option Nat} {co:Option Nat} {l:List AV} {ys:List α} {y:α} {bt n:Nat} (hz:0<z) (hw:h.wf) (hbh:b≤h.next)
  (hs:Live t z b R h (.sl io 0 n co) ys) (hn:n=ys.length) (hx:R (h.del io) l y) (hlz:l.length=z) (h1:l.all (·.one)=true) (hbt:bt≤64) (hl:n+1≤1099511627776)
  (hh:h2=h.new ⟨some t,z,l⟩) (hk:∀v h',h'.wf→(h.del io).le h'→Live t z b R h' v (ys++[y])→K v h'):appK t z bt (.sl io 0 n co) (.sl (some h.next) 0 1 (some 1)) h2 K:=by
 subst hh
 subst hn
 obtain⟨io',co',cs,e,hs,hc⟩:=hs
 injection e with e1 e2 e3 e4
 subst e1;subst e4
 have hbb:=Nat.mul_le_mul hl hbt
 have hw2:=H.wf_new hw ⟨some t,z,l⟩
 have hs2:=hs.mono (H.le_new hw (H.le_refl h) ⟨some t,z,l⟩)
 obtain⟨hcl,id',c',e,h3⟩:=hs2
 injection e with e1 e2 e3 e4
 subst e1;subst e4
 have hnx:(h.new ⟨some t,z,l⟩).next=h.next+1:=rfl
 simp only[appK]
 refine⟨fun h0=>by omega,fun _=>⟨h.next,_,rfl,H.rows_new _ _, ?_, ?_,by omega,by omega, ?_⟩⟩
 ·show 0+1*z≤l.length
  omega
 ·show((l.drop 0).take (1*z)).all (·.one)=true
  rw[List.drop_zero,Nat.one_mul,List.take_of_length_le (by omega)]
  exact h1
 have et:((⟨some t,z,l⟩:Row).cells.drop 0).take (1*z)=l:=by
  show(l.drop 0).take (1*z)=l
  rw[List.drop_zero,Nat.one_mul,List.take_of_length_le (by omega)]
 rw[et]
 have hlen1:(ys++[y]).length=ys.length+1:=by simp
 rcases h3 with⟨rfl,h0⟩|⟨i,q,rfl,hbi,hq,ho,he,hf2,ht2⟩
 ·have hy:ys=[]:=List.eq_nil_of_length_eq_zero h0
  subst hy
  have:cs=[]:=List.eq_nil_of_length_eq_zero (by simpa using hcl)
  subst this
  refine .inl ⟨rfl,rfl,hk _ _ (H.wf_new hw2 _) (H.le_trans (H.del_le none) (H.le_new hw2 (H.le_new hw (H.le_refl h) _) _)) ⟨some (h.next+1),none,[]++l,rfl, ?_, ?_⟩⟩
  ·exact⟨by simp[hlz],some (h.next+1),none,rfl, .inr ⟨h.next+1,_,rfl,by omega,H.rows_new _ _,rfl,rfl,by simp[hlz],List.take_of_length_le (by simp[hlz])⟩⟩
  ·refine(hc.snoc hlz hx).mono fun l' x' hx'=>hR hx' ⟨by show h.next≤h.next+1+1;omega,fun j r hj=> ?_⟩
   have hj':=(H.del_le none).2 j r hj
   have hlt:=H.row_lt hw hj'
   simp only[H.del]
   rw[if_neg (by intro e;injection e;omega),H.rows_new_ne (by rw[hnx];omega),H.rows_new_ne (by omega)]
   exact hj'
 ·have hil:=H.row_lt hw2 hq
  have hi2:i≠h.next:=by
   intro e
   obtain⟨_,id2,c2,e2,h4⟩:=hs
   injection e2 with e2
   rcases h4 with⟨h4,_⟩|⟨i2,q2,h4,_,h5,_⟩
   ·rw[←e2] at h4;cases h4
   ·rw[←e2] at h4
    injection h4 with h4
    have:=H.row_lt hw h5
    omega
  refine .inr ⟨i,q,rfl,hq,ho,he,by simp,hf2,hk _ _ (H.wf_new (H.wf_del hw2 _) _) (H.le_new (H.wf_del hw2 _) (H.del_mono (H.le_new hw (H.le_refl h) _) _) _) ⟨some (h.next+1),none,cs++l,by rw[hlen1];rfl, ?_, ?_⟩⟩
  ·refine⟨by simp[hcl,hlz,Nat.add_mul],some (h.next+1),none,by rw[hlen1];rfl, .inr ⟨h.next+1,_,rfl,by omega,H.rows_new _ _,rfl,rfl, ?_, ?_⟩⟩
   ·rw[hlen1]
    simp only[List.length_append,ht2,hcl,hlz,Nat.add_mul];omega
   ·rw[hlen1,ht2]
    exact List.take_of_length_le (by simp[hcl,hlz,Nat.add_mul])
  ·refine(hc.snoc hlz hx).mono fun l' x' hx'=>hR hx' ⟨by show h.next≤h.next+1+1;omega,fun j r hj=> ?_⟩
   have hj':=(H.del_le (some i)).2 j r hj
   have hlt:=H.row_lt hw hj'
   have hji:j≠i:=by
    rintro rfl
    simp[H.del] at hj
   simp only[H.del]
   rw[if_neg (by intro e;injection e;omega)]
   show((H.del _ (some i)).new _).rows j=some r
   rw[H.rows_new_ne (by rw[H.next_del,hnx];omega),H.rows_del_ne hji,H.rows_new_ne (by omega)]
   exact hj'
section
def sg (b:Bool) (x:Nat):Int:=if b=true then-(x:Int) else(x:Int)
theorem sg_abs (b:Bool) (x:Nat):(sg b x).natAbs=x:=by cases b<;>simp[sg]
theorem sg_zero (b:Bool):sg b 0=0:=by cases b<;>rfl
theorem sg_made {b:Bool} {x:Nat}:sg (b&&decide (x≠0)) x=sg b x:=by
 by_cases h:x=0
 ·subst h;rw[sg_zero,sg_zero]
 ·rw[decide_eq_true h,Bool.and_true]
theorem sg_mul {a b:Bool} {x y:Nat}:sg a x*sg b y=sg (a !=b) (x*y):=by
 cases a<;>cases b<;>simp[sg,Int.neg_mul,Int.mul_neg]
theorem sg_tdiv {a b:Bool} {x y:Nat}:(sg a x).tdiv (sg b y)=sg (a !=b) (x/y):=by
 cases a<;>cases b<;>simp[sg,Int.neg_tdiv,Int.tdiv_neg,tdivN]
theorem sg_tmod {a b:Bool} {x y:Nat}:(sg a x).tmod (sg b y)=sg a (x%y):=by
 cases a<;>cases b<;>simp[sg,Int.neg_tmod,Int.tmod_neg,tmodN]
def Zn (h:H) (v:AV) (z:Int):Prop:=∃w b x,v= .agg [w, .bool b]∧Nn h w x∧z=sg b x
def Zf (c:Nat) (h:H) (v:AV) (z:Int):Prop:=∃w b x,v= .agg [w, .bool b]∧Nf c h w x∧(x=0→b=false)∧z=sg b x
def Zr (h:H) (v:AV) (z:Int):Prop:=∃w b x,v= .agg [w, .bool b]∧Num 4294967296 h w x∧(x=0→b=false)∧z=sg b x
theorem Zn.mono {h h':H} {v:AV} {z:Int} (hv:Zn h v z) (hl:h.le h'):Zn h' v z:=by
 obtain⟨w,b,x,e,h1,h2⟩:=hv
 exact⟨w,b,x,e,h1.mono hl,h2⟩
theorem Zf.mono {c:Nat} {h h':H} {v:AV} {z:Int} (hv:Zf c h v z) (hl:h.le h'):Zf c h' v z:=by
 obtain⟨w,b,x,e,h1,h2⟩:=hv
 exact⟨w,b,x,e,h1.mono hl,h2⟩
theorem Zr.mono {h h':H} {v:AV} {z:Int} (hv:Zr h v z) (hl:h.le h'):Zr h' v z:=by
 obtain⟨w,b,x,e,h1,h2⟩:=hv
 exact⟨w,b,x,e,h1.mono hl,h2⟩
theorem Zf.base {c d:Nat} {h:H} {v:AV} {z:Int} (hv:Zf c h v z) (hd:d≤c):Zf d h v z:=by
 obtain⟨w,b,x,e,h1,h2⟩:=hv
 exact⟨w,b,x,e,h1.base hd,h2⟩
theorem Zf.zn {c:Nat} {h:H} {v:AV} {z:Int} (hv:Zf c h v z) (hb:Big z.natAbs):Zn h v z:=by
 obtain⟨w,b,x,e,h1,h2,rfl⟩:=hv
 rw[sg_abs] at hb
 exact⟨w,b,x,e,h1.nn hb,rfl⟩
theorem Nf.leeT {b i x:Nat} {h g:H} {v:AV} {r:Row} {T:TypeId} (hv:Nf b h v x) (hr:h.rows i=some r) (ho:r.own=some T) (hT:T≠23) (hl:H.lee i h g):Nf b g v x:=by
 obtain⟨xs,⟨id,c,rfl,h1⟩,h2⟩:=hv
 refine⟨xs,⟨id,c,rfl, ?_⟩,h2⟩
 rcases h1 with h1|⟨j,q,rfl,hb,hq,hqo,h3⟩
 ·exact .inl h1
 ·refine .inr ⟨j,q,rfl,hb,hl.2 j q ?_ hq,hqo,h3⟩
  rintro rfl
  rw[hr] at hq
  injection hq with hq
  rw[←hq,ho] at hqo
  injection hqo with hqo
  exact hT hqo
theorem Num.leeT {B i n:Nat} {h g:H} {v:AV} {r:Row} (hv:Num B h v n) (hr:h.rows i=some r) (ho:r.own≠none∧r.esz≠1) (hl:H.lee i h g):Num B g v n:=by
 obtain⟨xs,h1,h2⟩:=hv
 exact⟨xs,IsW.monoE hr ho.1 ho.2 h1 hl,h2⟩
--rows made
theorem new2 {h h':H} {r1 r2:Row} (hw:h.wf) (hh:(h.new r1).new r2=h'):h.le h'∧h'.wf∧h'.next=h.next+2∧h'.rows h.next=some r1∧h'.rows (h.next+1)=some r2:=by
 subst hh
 have hw1:=H.wf_new hw r1
 refine⟨H.le_new hw1 (H.le_new hw (H.le_refl h) r1) r2,H.wf_new hw1 r2,rfl, ?_,H.rows_new _ _⟩
 rw[H.rows_new_ne (by simp[H.new]),H.rows_new]
theorem new3 {h h':H} {r1 r2 r3:Row} (hw:h.wf) (hh:((h.new r1).new r2).new r3=h'):h.le h'∧h'.wf∧h'.next=h.next+3∧h'.rows h.next=some r1∧h'.rows (h.next+1)=some r2∧h'.rows (h.next+2)=some r3:=by
 subst hh
 obtain⟨a1,a2,a3,a4,a5⟩:=new2 (r1:=r1) (r2:=r2) hw rfl
 have l:=H.le_new a2 (H.le_refl _) r3
 exact⟨H.le_trans a1 l,H.wf_new a2 r3,rfl,l.2 _ _ a4,l.2 _ _ a5,H.rows_new _ _⟩
theorem g2 {h:H} {i:Nat} {T:Option TypeId} {a b:AV} (hr:h.rows i=some ⟨T,2,[a,b]⟩):h.get i 0=some a∧h.get i 1=some b∧h.gets i 0 2=some [a,b]:=by
 rw[H.get_of hr,H.get_of hr,H.gets_of hr (by simp)]
 exact⟨rfl,rfl,rfl⟩
theorem bldI {s:AV} {b:Bool} (hs:s.one=true):abuild [.sl none 0 0 none, .bool false] [(0,1,s),(1,1, .bool b)]=some [s, .bool b]:=by
 cases s<;>first|rfl|simp[AV.one] at hs
theorem all2 {s:AV} {b:Bool} (hs:s.one=true):([s, .bool b].all fun x=>x.one)=true:=by
 simp only[List.all_cons,List.all_nil,hs,Bool.true_and,Bool.and_true]
 rfl
theorem put2 {h h':H} {R:Nat} {T:TypeId} {a b:AV} {l:List AV} {K:AV→H→Prop} (hw:h.wf) (hw':h'.wf) (hl:h.le h') (hge:h.next≤R) (hr:h'.rows R=some ⟨some T,2,l⟩) (hll:l.length=2)
  (hk:∀g:H,g.wf→h.le g→g.gets R 0 2=some [a,b]→g.rows R=some ⟨some T,2,[a,b]⟩→H.lee R h' g→K .junk g):putK (h'.rows R) R 0 2 [a,b] h' K:=by
 have e:putAt l 0 [a,b]=[a,b]:=by simp[putAt,hll]
 rw[hr]
 refine⟨by simp,by simp[hll], ?_⟩
 show K .junk (h'.set R ⟨some T,2,putAt l 0 [a,b]⟩)
 rw[e]
 exact hk _ (H.wf_set hw' (H.row_lt hw' hr) _) (H.le_set hw hl hge _) (g2 (H.rows_set _ _ _)).2.2 (H.rows_set _ _ _) (H.lee_set _)
section
variable {v u wa wb:AV} {ba bb:Bool} {x y:Nat} {h:H} {K:AV→H→Prop}
theorem made_calls (nv:Nn h v x) (hk:∀h',h'.wf→h.le h'→K (.agg [v, .bool (ba&&decide (x≠0))]) h'):ACalls Try.prog 56 [v, .bool ba] h K:=by
 refine in_num_made (by simp) fun hw=> ?_
 unfold c_num_made
 have hl1:=H.le_new hw (H.le_refl h) ⟨some 45,2,[.sl none 0 0 none, .bool false]⟩
 have hw1:=H.wf_new hw ⟨some 45,2,[.sl none 0 0 none, .bool false]⟩
 have hr1:=H.rows_new h ⟨some 45,2,[.sl none 0 0 none, .bool false]⟩
 have e1:(!decide (x=0))=decide (x≠0):=by simp
 cases ba
 ·simp only[go_sem,bldI nv.one]
  simp only[List.length_cons,List.length_nil,Nat.zero_add,Nat.reduceAdd]
  refine⟨trivial,all2 nv.one,put2 hw hw1 hl1 (Nat.le_refl _) hr1 rfl fun g hwg hlg hg _ _=> ?_⟩
  simp only[go_sem,hg]
  exact fun _=>hk g hwg hlg
 ·simp only[go_sem]
  simp only[List.length_cons,List.length_nil,Nat.zero_add,Nat.reduceAdd]
  refine Zero_calls (nv.mono hl1) ?_
  simp only[go_sem,bldI nv.one]
  simp only[List.length_cons,List.length_nil,Nat.zero_add,Nat.reduceAdd]
  refine⟨trivial,all2 nv.one,put2 hw hw1 hl1 (Nat.le_refl _) hr1 rfl fun g hwg hlg hg _ _=> ?_⟩
  simp only[go_sem,hg,e1]
  exact fun _=>hk g hwg hlg
theorem Num.one {B n:Nat} {h:H} {v:AV} (hv:Num B h v n):v.one=true:=by
 obtain⟨xs,h1,_⟩:=hv
 obtain⟨i,o,c,rfl⟩:=h1.form
 rfl
theorem rZero_calls (nv:Num 4294967296 h v x) (hk:K (.bool (decide (x=0))) h):ACalls Try.prog 87 [v] h K:=by
 obtain⟨xs,h1,h2,h3,rfl⟩:=nv
 obtain⟨id,off,c,rfl⟩:=h1.form
 refine in_ref02_Zero (by simp) fun hw=> ?_
 unfold c_ref02_Zero
 have e:((xs.length:Int)==0)=decide (val 4294967296 xs=0):=by
  rw[Bool.eq_iff_iff]
  simp only[beq_iff_eq,decide_eq_true_eq]
  constructor
  ·intro h0
   have:xs=[]:=List.eq_nil_of_length_eq_zero (by omega)
   subst this
   rfl
  ·intro h0
   rcases Nat.eq_zero_or_pos xs.length with h|h
   ·omega
   ·exfalso
    have h4:xs≠ []:=by intro e;subst e;simp at h
    have h5:=val_ge 4294967296 xs h3 h4
    have h6:0<4294967296^(xs.length-1):=Nat.pow_pos (by omega)
    omega
 simp only[go_sem,e]
 exact fun _=>hk
theorem rmade_calls (nv:Num 4294967296 h v x) (hk:∀h',h'.wf→h.le h'→K (.agg [v, .bool (ba&&decide (x≠0))]) h'):ACalls Try.prog 66 [v, .bool ba] h K:=by
 refine in_ref17_made (by simp) fun hw=> ?_
 unfold c_ref17_made
 have hl1:=H.le_new hw (H.le_refl h) ⟨some 61,2,[.sl none 0 0 none, .bool false]⟩
 have hw1:=H.wf_new hw ⟨some 61,2,[.sl none 0 0 none, .bool false]⟩
 have hr1:=H.rows_new h ⟨some 61,2,[.sl none 0 0 none, .bool false]⟩
 have e1:(!decide (x=0))=decide (x≠0):=by simp
 have nv1:=nv.one
 cases ba
 ·simp only[go_sem,bldI nv1]
  simp only[List.length_cons,List.length_nil,Nat.zero_add,Nat.reduceAdd]
  refine⟨trivial,all2 nv1,put2 hw hw1 hl1 (Nat.le_refl _) hr1 rfl fun g hwg hlg hg _ _=> ?_⟩
  simp only[go_sem,hg]
  exact fun _=>hk g hwg hlg
 ·simp only[go_sem]
  simp only[List.length_cons,List.length_nil,Nat.zero_add,Nat.reduceAdd]
  refine rZero_calls (nv.mono hl1) ?_
  simp only[go_sem,bldI nv1]
  simp only[List.length_cons,List.length_nil,Nat.zero_add,Nat.reduceAdd]
  refine⟨trivial,all2 nv1,put2 hw hw1 hl1 (Nat.le_refl _) hr1 rfl fun g hwg hlg hg _ _=> ?_⟩
  simp only[go_sem,hg,e1]
  exact fun _=>hk g hwg hlg
theorem sg_zf {c:Nat} {w:AV} {b:Bool} (hw:Nf c h w x):Zf c h (.agg [w, .bool (b&&decide (x≠0))]) (sg b x):=
 ⟨w,_,x,rfl,hw,fun h0=>by simp[h0],sg_made.symm⟩
theorem sg_zr {w:AV} {b:Bool} (hw:Num 4294967296 h w x):Zr h (.agg [w, .bool (b&&decide (x≠0))]) (sg b x):=
 ⟨w,_,x,rfl,hw,fun h0=>by simp[h0],sg_made.symm⟩
theorem sg_add_same {a:Bool} {x y:Nat}:sg a x+sg a y=sg a (x+y):=by
 cases a<;>simp[sg]<;>omega
theorem sg_add_ge {a b:Bool} {x y:Nat} (h:a≠b) (hy:y≤x):sg a x+sg b y=sg a (x-y):=by
 cases a<;>cases b<;>simp[sg] at h⊢<;>omega
theorem sg_add_lt {a b:Bool} {x y:Nat} (h:a≠b) (hy:x≤y):sg a x+sg b y=sg b (y-x):=by
 cases a<;>cases b<;>simp[sg] at h⊢<;>omega
theorem zNorm_calls (nv:Nn h wa x) (hx:Big x) (hk:∀r h',h'.wf→h.le h'→Zf h.next h' r (sg ba x)→K r h'):ACalls Try.prog 44 [.agg [wa, .bool ba]] h K:=by
 refine in_num_Norm (by simp) fun hw=> ?_
 unfold c_num_Norm
 simp only[go_sem]
 simp only[AV.cells,List.length_cons,List.length_nil,Nat.zero_add,Nat.reduceAdd]
 refine⟨rfl, ?_⟩
 generalize hh:(h.new ⟨some 45,2,_⟩).new ⟨some 45,2,_⟩=h1
 obtain⟨hl1,hw1,hn1,r1,r2⟩:=new2 hw hh
 obtain⟨a1,a2,a3⟩:=g2 r1
 simp only[go_sem,a1,a2,Nat.zero_add]
 refine Norm_calls (nv.mono hl1) fun r h2 hw2 hl2 hr=> ?_
 obtain⟨b1,b2,b3⟩:=g2 (hl2.2 _ _ r1)
 simp only[go_sem,b1,b2,Nat.zero_add]
 refine⟨by simp, ?_⟩
 refine made_calls (hr.nn hx) fun h3 hw3 hl3=> ?_
 have l13:=H.le_trans hl2 hl3
 simp only[go_sem]
 refine⟨rfl,all2 hr.one,put2 hw hw3 (H.le_trans hl1 l13) (Nat.le_succ _) (l13.2 _ _ r2) rfl fun g hwg hlg hg _ hle=> ?_⟩
 simp only[go_sem,hg]
 refine fun _=>hk _ g hwg hlg (sg_zf ?_)
 have h5:=(hr.mono hl3).base hl1.1
 exact h5.leeT (l13.2 _ _ r2) rfl (by decide) hle
end
end
end Ab
end Go.Proofs.Ytkbglkjpdndkiaa
