/- The logic's regions that draw their order: quiet operations, one of which may be late, and behind them a row that write. No condition. -/
import Derived.Test.YtgfmjmfphmjdkaaGreatDoorR3AQ
set_option linter.unusedSimpArgs false
set_option linter.unusedVariables false
set_option linter.unusedSectionVars false
namespace Go.Proofs.YtgfmjmfphmjdkaaGreatDoor
set_option maxHeartbeats 4000000
open Go Go.RowKit
set_option maxRecDepth 100000
section
variable {P : Program} {T0 : Gh} {N : Fz} {Q : ko} {fr : Fr} {M : List Own} {ops : Array Oper} {o : Oper}
def zfx (P : Program) (T0 : Gh) (N : Fz) (md : Region.Mode) (ops : Array Oper) (L d : Nat) (ds : List Nat) (QB QC : Fr → Prop) (M : List Own) : Nat → Array Bool → Fr → Prop
 |0,_,_=>False
 |fuel + 1,listed,fr=>Region.ready md ops listed ≠ [] ∧ ∀ i ∈ Region.ready md ops listed,∀ o,ops[i]? = some o →
   (i = L ∧ fuel = ds.length ∧ zkx md ops ds (listed.setIfInBounds i true) = true ∧ QB fr) ∨
   (i = L ∧ fuel = (d :: ds).length ∧ zkx md ops (d :: ds) (listed.setIfInBounds i true) = true ∧ QC fr) ∨
   (i ≠ L ∧ (∀ x,o.dst = some x → x < N.n) ∧ ∃ A,QY P T0 ops o fr M A ∧ zfx P T0 N md ops L d ds QB QC M fuel (listed.setIfInBounds i true) (fr.put o.dst A))
theorem zdj {md : Region.Mode} {L d : Nat} {ds : List Nat} {oL od : Oper} {os : List Oper} {QB QC : Fr → Prop} {w0 : World} {F : List Own} {G0 : Gh} {Qc : Exit → Act → World → Prop} (hoL : ops[L]? = some oL) (hos : ds.map (fun d=>ops[d]?) = os.map some) (hod : ops[d]? = some od)
  (hQ : ∀ fr' G a w,Gh.le G0 G → QB fr' → Con T0 N w0 G F fr' M a w → wpList P ops Qc (oL :: os) a w)
  (hC : ∀ fr' G a w,Gh.le G0 G → QC fr' → Con T0 N w0 G F fr' M a w → wpList P ops Qc (oL :: od :: os) a w) : ∀ (fuel : Nat) (listed : Array Bool) (fr : Fr) (G : Gh) (a : Act) (w : World),Gh.le G0 G → Con T0 N w0 G F fr M a w →
  zfx P T0 N md ops L d ds QB QC M fuel listed fr → wpAny P md ops Qc fuel listed a w
 |0,_,_,_,_,_,_,_,h=>h.elim
 |fuel + 1,listed,fr,G,a,w,hl,hc,h=>by
  refine ⟨fun h0=>absurd h0 h.1,fun i hi => ?_⟩
  unfold wpOp
  have hosd : (d :: ds).map (fun d=>ops[d]?) = (od :: os).map some:=by simp only [List.map_cons,hos,hod]
  cases ho : ops[i]? with
  |none=>have:=(mem_ready.1 hi).2; rw [ho] at this; obtain ⟨_,e,_⟩:=this; cases e
  |some o =>
   rcases h.2 i hi o ho with ⟨rfl,rfl,hB,hq⟩ | ⟨rfl,rfl,hB,hq⟩ | ⟨_,hd,A,hy,hr⟩
   ·rw [ho] at hoL; obtain rfl:=Option.some.inj hoL
    have h3:=hQ fr G a w hl hq hc
    unfold wpList at h3
    simp only
    split at h3
    ·rename_i hw
     rw [if_pos hw]
     exact h3.imp (fun h=>zaq (fun a w h=>vq ds os _ a w hos hB h) h) (fun h=>h)
    ·rename_i hw
     rw [if_neg hw]
     exact vq ds os _ _ _ hos hB h3
   ·rw [ho] at hoL; obtain rfl:=Option.some.inj hoL
    have h3:=hC fr G a w hl hq hc
    unfold wpList at h3
    simp only
    split at h3
    ·rename_i hw
     rw [if_pos hw]
     exact h3.imp (fun h=>zaq (fun a w h=>vq (d :: ds) (od :: os) _ a w hosd hB h) h) (fun h=>h)
    ·rename_i hw
     rw [if_neg hw]
     exact vq (d :: ds) (od :: os) _ _ _ hosd hB h3
   ·obtain ⟨h1,h2⟩:=hy w0 G F a w hc.st (fun s A _ e=>hc.fr s A trivial e)
    simp only
    by_cases hw : Region.wanted o (yielded ops a.tmps) = true
    ·rw [if_pos hw]
     refine .inl (h1 hw _ _ fun G' u w' hl' hs hu => ?_)
     exact zdj hoL hos hod hQ hC fuel _ _ G' _ w' (hl.trans hl') (hc.put hl' hs hd hu) hr
    ·rw [if_neg hw]
     exact zdj hoL hos hod hQ hC fuel _ _ G _ w hl (hc.put (Gh.le.refl _) hc.st hd (h2 (by simpa using hw))) hr
theorem zfw {md : Region.Mode} {L d : Nat} {ds : List Nat} {QB QC : Fr → Prop} (hQ : ∀ fr fr' : Fr,(∀ s,fr'.get s = fr.get s) → QB fr → QB fr') (hQC : ∀ fr fr' : Fr,(∀ s,fr'.get s = fr.get s) → QC fr → QC fr') : ∀ (fuel : Nat) (listed : Array Bool) (fr fr' : Fr),(∀ s,fr'.get s = fr.get s) → zfx P T0 N md ops L d ds QB QC M fuel listed fr → zfx P T0 N md ops L d ds QB QC M fuel listed fr'
 |0,_,_,_,_,h=>h
 |fuel + 1,listed,fr,fr',he,h=>by
  refine ⟨h.1,fun i hi o ho => ?_⟩
  rcases h.2 i hi o ho with ⟨h1,h2,h3,h4⟩ | ⟨h1,h2,h3,h4⟩ | ⟨h1,hd,A,hy,hr⟩
  ·exact .inl ⟨h1,h2,h3,hQ fr fr' he h4⟩
  ·exact .inr (.inl ⟨h1,h2,h3,hQC fr fr' he h4⟩)
  ·refine .inr (.inr ⟨h1,hd,A,hy.other (fun s _=>he s),zfw hQ hQC fuel _ _ _ (fun s => ?_) hr⟩)
   cases hdst : o.dst with
   |none=>exact he s
   |some d =>
    by_cases e : s = d
    ·subst e; simp only [Fr.put,qm]
    ·simp only [Fr.put,qf e]; exact he s
def zul (d L : Nat) (md : Region.Mode) (ops : Array Oper) : Bool:=(List.range L).all fun i=>Nat.beq i d || (List.range (L + 1)).any fun k=>decide (i < k) && !Nat.beq k d && (ops[k]?).any fun o=>o.after.any fun e=>Region.binds md e && e.on == i
theorem zq3 {d L : Nat} {md : Region.Mode} (h : zul d L md ops = true) {i : Nat} (hi : i < L) (hid : i ≠ d) : ∃ k o,i < k ∧ k ≤ L ∧ k ≠ d ∧ ops[k]? = some o ∧ ∃ e ∈ o.after,Region.binds md e = true ∧ e.on = i:=by
 have:=List.all_eq_true.1 h i (List.mem_range.2 hi)
 rw [zat hid,Bool.false_or] at this
 obtain ⟨k,hk,h2⟩:=List.any_eq_true.1 this
 simp only [Bool.and_eq_true,decide_eq_true_eq,Bool.not_eq_true'] at h2
 obtain ⟨⟨h3,h3'⟩,h4⟩:=h2
 cases ho : ops[k]? with
 |none=>rw [ho] at h4; cases h4
 |some o =>
  rw [ho] at h4
  simp only [Option.any_some,Array.any_eq_true,Bool.and_eq_true,beq_iff_eq] at h4
  obtain ⟨n,hn,h5,h6⟩:=h4
  exact ⟨k,o,h3,by have:=List.mem_range.1 hk; omega,fun e=>by (subst e; simp at h3'),ho,_,Array.getElem_mem hn,h5,h6⟩
theorem zuk {d L : Nat} {md : Region.Mode} {listed : Array Bool} (hS : Shut md ops listed) (hlast : zul d L md ops = true) (hL : L ∈ Region.ready md ops listed) : ∀ n i,L - i = n → i < L → i ≠ d → listed.getD i false = true:=by
 intro n
 induction n using Nat.strongRecOn with
 |_ n ih =>
  intro i hn hi hid
  obtain ⟨k,o,h1,h2',hkd,h2,e,h3,h4,h5⟩:=zq3 hlast hi hid
  by_cases hkL : k = L
  ·obtain ⟨_,o',ho',hall⟩:=mem_ready.1 hL
   rw [← hkL,h2] at ho'; obtain rfl:=Option.some.inj ho'
   rw [← h5]; exact hall e h3 h4
  ·have:=ih (L - k) (by omega) k rfl (by omega) hkd
   rw [← h5]; exact hS k o h2 this e h3 h4
def zuu (md : Region.Mode) (ops : Array Oper) (d : Nat) : List Nat → Bool
 |[]=>true
 |e :: _=>(ops[e]?).any fun o=>o.after.any fun x=>Region.binds md x && x.on == d
theorem zq9 {md : Region.Mode} {d e : Nat} {ds : List Nat} (h : zuu md ops d (e :: ds) = true) : ∃ o,ops[e]? = some o ∧ ∃ x ∈ o.after,Region.binds md x = true ∧ x.on = d:=by
 simp only [zuu] at h
 cases ho : ops[e]? with
 |none=>rw [ho] at h; cases h
 |some o =>
  rw [ho] at h
  simp only [Option.any_some,Array.any_eq_true,Bool.and_eq_true,beq_iff_eq] at h
  obtain ⟨n,hn,h5,h6⟩:=h
  exact ⟨o,rfl,_,Array.getElem_mem hn,h5,h6⟩
theorem zk1 {md : Region.Mode} {L d : Nat} {ds : List Nat} {QB QC : Fr → Prop} (hQ : ∀ fr fr' : Fr,(∀ s,fr'.get s = fr.get s) → QB fr → QB fr') (hQC : ∀ fr fr' : Fr,(∀ s,fr'.get s = fr.get s) → QC fr → QC fr') (hlast : zul d L md ops = true) (hhead : zuu md ops d ds = true) {i : Nat} {oi : Oper} {A : AV} (hi : ops[i]? = some oi) (hiL : i < L) (hdi : ∀ x,oi.dst = some x → x < N.n)
  (hBC : i = d → ∀ fr,QB (fr.put oi.dst A) → QC fr) :
  ∀ (fuel : Nat) (listed : Array Bool) (fr : Fr),
    (∀ j oj,ops[j]? = some oj → j ≠ i → listed.getD j true = false → (∀ e ∈ oj.after,Region.binds md e = true → e.on ≠ i) → oi.apart ops oj = true) →
    Shut md ops listed → i ∈ Region.ready md ops listed → QY P T0 ops oi fr M A →
    zfx P T0 N md ops L d ds QB QC M fuel (listed.setIfInBounds i true) (fr.put oi.dst A) → zfx P T0 N md ops L d ds QB QC M (fuel + 1) listed fr:=by
 intro fuel
 induction fuel with
 |zero=>intro listed fr _ _ hr hy H; exact H.elim
 |succ fuel ih =>
  intro listed fr hfree hS hr hy H
  refine ⟨fun h=>(by rw [h] at hr; cases hr),fun j hj o ho => ?_⟩
  by_cases hji : j = i
  ·subst hji; rw [hi] at ho; obtain rfl:=Option.some.inj ho; exact .inr (.inr ⟨by omega,hdi,A,hy,H⟩)
  ·obtain ⟨hjun,oj,hoj,hall⟩:=mem_ready.1 hj
   rw [ho] at hoj; obtain rfl:=Option.some.inj hoj
   have hnot : ∀ e ∈ o.after,Region.binds md e = true → e.on ≠ i:=fun e he hb heq=>by
    have h1:=hall e he hb
    rw [heq] at h1
    exact js hr h1
   by_cases hjL : j = L
   ·subst hjL
    by_cases hid : i = d
    ·subst hid
     have hri : i ∈ Region.ready md ops (listed.setIfInBounds j true):=ready_mono hr (Ne.symm hji)
     rcases H.2 _ (ready_mono hj hji) o ho with ⟨_,h2,h3,h4⟩ | ⟨_,h2,h3,h4⟩ | ⟨h1,_⟩
     ·refine .inr (.inl ⟨rfl,by simp only [List.length_cons]; omega, ?_,hBC rfl fr h4⟩)
      rw [Array.setIfInBounds_comm _ _ (Ne.symm hji)] at h3
      simp only [zkx,Bool.and_eq_true]
      refine ⟨⟨by simpa using hri,List.all_eq_true.2 fun k hk => ?_⟩,h3⟩
      by_cases hki : k = i
      ·subst hki; exact Nat.beq_refl _
      ·have hk2:=ready_mono hk hki
       cases ds with
       |nil =>
        simp only [zkx] at h3
        have : Region.ready md ops ((listed.setIfInBounds j true).setIfInBounds i true) = []:=by simpa using h3
        rw [this] at hk2; cases hk2
       |cons e ds =>
        simp only [zkx,Bool.and_eq_true] at h3
        obtain rfl:=Nat.eq_of_beq_eq_true (List.all_eq_true.1 h3.1.2 k hk2)
        obtain ⟨oe,he1,x,hx1,hx2,hx3⟩:=zq9 hhead
        obtain ⟨_,oe',he1',hall'⟩:=mem_ready.1 hk
        rw [he1] at he1'; obtain rfl:=Option.some.inj he1'
        have:=hall' x hx1 hx2
        rw [hx3] at this
        exact (js hri this).elim
     ·simp only [zkx,Bool.and_eq_true] at h3
      have h5 : i ∈ Region.ready md ops ((listed.setIfInBounds i true).setIfInBounds j true):=by simpa using h3.1.1
      rw [Array.setIfInBounds_comm _ _ (Ne.symm hji)] at h5
      exact (zcr h5).elim
     ·exact absurd rfl h1
    ·exact (js hr (zuk hS hlast hj _ i rfl hiL hid)).elim
   ·rcases H.2 j (ready_mono hj hji) o ho with ⟨h1,_⟩ | ⟨h1,_⟩ | ⟨_,hd,A',hy',hr'⟩
    ·exact absurd h1 hjL
    ·exact absurd h1 hjL
    obtain ⟨p1,p2,p3⟩:=Oper.apart_spec (hfree j o ho hji hjun hnot)
    have hfree' : ∀ k ok,ops[k]? = some ok → k ≠ i → (listed.setIfInBounds j true).getD k true = false →
      (∀ e ∈ ok.after,Region.binds md e = true → e.on ≠ i) → oi.apart ops ok = true:=fun k ok hk hki hun hno=>by
     refine hfree k ok hk hki ?_ hno
     by_cases hjk : j = k
     ·subst hjk; exact hjun
     ·rw [getD_set_ne true hjk] at hun; exact hun
    refine .inr (.inr ⟨hjL,hd,A',hy'.other (fun s hs=>(xy fun x hx e=>p1 x hx (e ▸ hs)).symm), ?_⟩)
    refine ih (listed.setIfInBounds j true) _ hfree' (hS.put hj) (ready_mono hr (Ne.symm hji)) (hy.other fun s hs=>xy fun x hx e=>p3 x hx (e ▸ hs)) ?_
    rw [Array.setIfInBounds_comm _ _ hji]
    exact zfw hQ hQC fuel _ _ _ (fun s=>vm (fun x hx e=>p2 x (by rw [← e]) hx |>.elim) s) hr'
theorem zh7 {md : Region.Mode} {L d : Nat} {ds : List Nat} {QB QC : Fr → Prop} (hQ : ∀ fr fr' : Fr,(∀ s,fr'.get s = fr.get s) → QB fr → QB fr') (hQC : ∀ fr fr' : Fr,(∀ s,fr'.get s = fr.get s) → QC fr → QC fr') (hlast : zul d L md ops = true) (hhead : zuu md ops d ds = true) (hBC : ∀ od,ops[d]? = some od → ∀ fr A,QB (fr.put od.dst A) → QC fr) : ∀ (l : List Oper) (k : Nat) (listed : Array Bool) (fr : Fr),k + l.length ≤ L → (∀ j,j < l.length → l[j]? = ops[k + j]?) →
  zzj md ops L ds l.length k listed = true → Shut md ops listed → AQ P T0 N ops QB M l fr → zfx P T0 N md ops L d ds QB QC M (l.length + (ds.length + 1)) listed fr
 |[],k,listed,fr,_,_,hB,hS,h=>by
  simp only [List.length_nil,zzj,zkx,Bool.and_eq_true] at hB
  obtain ⟨⟨b1,b2⟩,b3⟩:=hB
  have r1 : L ∈ Region.ready md ops listed:=by simpa using b1
  rw [List.length_nil,Nat.zero_add]
  refine ⟨fun e=>(by rw [e] at r1; cases r1),fun i hi oi hoi => ?_⟩
  obtain rfl:=Nat.eq_of_beq_eq_true (List.all_eq_true.1 b2 i hi)
  exact .inl ⟨rfl,rfl,b3,h⟩
 |o :: l,k,listed,fr,hL,hl,hB,hS,h=>by
  simp only [List.length_cons] at hL
  have h0 : ops[k]? = some o:=by simpa using (hl 0 (by simp)).symm
  have hl' : ∀ j,j < l.length → l[j]? = ops[k + 1 + j]?:=fun j hj=>by have:=hl (j + 1) (by simp; omega); simpa [Nat.add_assoc,Nat.add_comm 1 j] using this
  simp only [List.length_cons,zzj,Bool.and_eq_true] at hB
  obtain ⟨⟨hr,hf⟩,hB'⟩:=hB
  have hr' : k ∈ Region.ready md ops listed:=by simpa using hr
  obtain ⟨hd,A,hy,hr2⟩:=h
  rw [List.length_cons,show l.length + 1 + (ds.length + 1) = (l.length + (ds.length + 1)) + 1 by omega]
  refine zk1 hQ hQC hlast hhead h0 (by omega) hd (fun e fr hq=>by subst e; exact hBC o h0 fr A hq) _ listed fr (Region.free_spec h0 hf) hS hr' hy ?_
  exact zh7 hQ hQC hlast hhead hBC l (k + 1) _ _ (by omega) hl' hB' (hS.put hr') hr2
def z52 (P : Program) (T0 : Gh) (N : Fz) (ops : Array Oper) (oL od : Oper) (os : List Oper) (sd : Nat) (base : Fr) (Q : ko) : ko:=fun e fr' M'=>e = .normal ∧ AL P T0 N false ops Q (oL :: os) fr' M' ∧ ∃ frD,DelF sd base fr' frD ∧ AL P T0 N false ops Q (oL :: od :: os) frD M'
theorem qac {oL od : Oper} {os : List Oper} {sd : Nat} {base fr' frD : Fr} {M' : List Own} (h1 : AL P T0 N false ops Q (oL :: os) fr' M') (h3 : AL P T0 N false ops Q (oL :: od :: os) frD M') (h2 : DelF sd base fr' frD:=by first | exact zl5 | fail) : z52 P T0 N ops oL od os sd base Q .normal fr' M':=⟨rfl,h1,frD,h2,h3⟩
theorem zr8 {id : Nat} {l : List Oper} (d n : Nat) {oL od : Oper} {os : List Oper} {sd : Nat} (hs : l.drop n = oL :: os) (hod : l[d]? = some od) (hsd : od.dst = some sd) (hD : zul d n .any l.toArray = true) (hH : zuu .any l.toArray d (zb4 (l.length - (n + 1)) (n + 1)) = true) (hB : zzj .any l.toArray n (zb4 (l.length - (n + 1)) (n + 1)) n 0 (List.replicate l.length false).toArray = true) (hg : ((l.take n).all fun o=>o.guard.isNone) = true) (hm : P.follows .mixedOrders = true)
  (hb : fr.get sd = none)
  (h : AL P T0 N true vb (z52 P T0 N l.toArray oL od os sd fr Q) (l.take n) fr M) : AW P T0 N (.region id l.toArray true) Q fr M:=fun w0 G F a w hc=>by
 have h' : AQ2 P T0 N vb (fun fr'=>z52 P T0 N l.toArray oL od os sd fr Q .normal fr' M) (fun o fr'=>zb2 .any vb = true ∧ AE P T0 N vb (z52 P T0 N l.toArray oL od os sd fr Q) [o] fr' M) M (l.take n) fr:=by simpa [AL] using h
 rcases v6 _ _ h' with h1 | h1
 case inr=>obtain ⟨_,_,_,hlast,_⟩:=yp _ _ h1; rw [uu] at hlast; cases hlast
 have hlen : l.length = n + (os.length + 1):=by
  have:=congrArg List.length hs
  simp only [List.length_drop,List.length_cons] at this; omega
 have hgd : ∀ j,l[n + j]? = (oL :: os)[j]?:=fun j=>by rw [← hs,List.getElem?_drop]
 have hoL : l.toArray[n]? = some oL:=by simpa using hgd 0
 have hod' : l.toArray[d]? = some od:=by simpa using hod
 have hos : (zb4 os.length (n + 1)).map (fun d=>l.toArray[d]?) = os.map some:=zcz l os (n + 1) fun j _=>by
  have:=hgd (j + 1)
  rw [show n + 1 + j = n + (j + 1) by omega,this]; simp
 rw [show l.length - (n + 1) = os.length by omega] at hB hH
 have htl : (l.take n).length = n:=by rw [List.length_take]; omega
 have h2:=zdd (ops:=l.toArray) _ _ hg (u9 _ _ h1)
 have h3:=zh7 (md:=.any) (L:=n) (d:=d) (ds:=zb4 os.length (n + 1)) (QB:=fun fr' => ∃ fr1,(∀ s,Fr.get fr' s = Fr.get fr1 s) ∧ z52 P T0 N l.toArray oL od os sd fr Q .normal fr1 M) (QC:=fun fr' => ∃ fr1,(∀ s,s ≠ sd → Fr.get fr' s = Fr.get fr1 s) ∧ z52 P T0 N l.toArray oL od os sd fr Q .normal fr1 M)
  (fun fr fr' he h=>by obtain ⟨fr1,h1,h2⟩:=h; exact ⟨fr1,fun s=>(he s).trans (h1 s),h2⟩) (fun fr fr' he h=>by obtain ⟨fr1,h1,h2⟩:=h; exact ⟨fr1,fun s hs=>(he s).trans (h1 s hs),h2⟩) hD hH
  (fun o ho fr2 A hq=>by
   rw [hod'] at ho; obtain rfl:=Option.some.inj ho
   obtain ⟨fr1,h1,h2⟩:=hq
   exact ⟨fr1,fun s hs=>by rw [← h1 s,hsd]; exact (qf hs).symm,h2⟩) (l.take n) 0 (List.replicate l.length false).toArray fr (by omega)
  (fun j hj=>by rw [htl] at hj; simp [List.getElem?_take,hj]) (by rw [htl]; exact hB) (by simpa using y5 (md:=.any) (ops:=l.toArray) l.length) h2
 rw [htl,zcy,← hlen] at h3
 refine wp_region_any hm ?_
 have es : Array.replicate l.toArray.size false = (List.replicate l.length false).toArray:=by simp
 rw [es]
 refine zdj (G0:=G) (F:=F) (w0:=w0) hoL hos hod' ?_ ?_ _ _ fr G _ _ (Gh.le.refl _) ⟨hc.st.drew,hc.fr,hc.size,hc.defers⟩ (by simpa using h3)
 ·rintro fr' G' a' w' hl' ⟨fr1,he,_,hq,_⟩ hc'
  simp only [AL,Bool.false_eq_true,if_false] at hq
  exact q_ (fun _ _ _ q=>q.mono (fun _ _ _ h=>h) hl') _ _ _ (hq w0 G' F a' w' ⟨hc'.st,fun s A hs e=>hc'.fr s A hs (by rw [he s]; exact e),hc'.size,hc'.defers⟩)
 ·rintro fr' G' a' w' hl' ⟨fr1,he,_,_,frD,hdel,hq⟩ hc'
  simp only [AL,Bool.false_eq_true,if_false] at hq
  refine q_ (fun _ _ _ q=>q.mono (fun _ _ _ h=>h) hl') _ _ _ (hq w0 G' F a' w' ⟨hc'.st,fun s A hs e => ?_,hc'.size,hc'.defers⟩)
  obtain ⟨e1,e2⟩:=hdel.spec hb s A e
  exact hc'.fr s A hs (by rw [he s e1]; exact e2)
end
end Go.Proofs.YtgfmjmfphmjdkaaGreatDoor
namespace Go.Proofs.YtgfmjmfphmjdkaaGreatDoor
set_option maxHeartbeats 4000000
open Go Go.RowKit
set_option maxRecDepth 100000
section
variable {P : Program} {T0 : Gh} {N : Fz} {Q : ko} {fr : Fr} {M : List Own} {ops : Array Oper} {o : Oper} {rest : List Oper} {x0 : Nat}
theorem z08 {α : Type} {T : Ty α} {t e : TypeId} {x : Operand} {l : List α} {d : α} {by' off n : Nat} {av : α → AV} {u : Value} (i : Nat) (ho : o.op = .call { callee:=.builtin .clear,args := #[x],argTypes := #[t] }) (hu : P.underlying t = some (.slice e)) (he : El P T e d by' av) (hx : Opd T0 fr x (rsA T.k u off n)) (hM : M[i]? = some (z_ T e u l)) (hn0 : 0 < n) (hn : off + n ≤ l.length) :
  AO P T0 ops o fr M (fun _ M'=>M' = M.set i (z_ T e u (ovr l off (List.replicate n d)))) (fun _ _=>False):=fun w0 G F a w next Qc hs hf hk _=>by
 have hxr:=hx.use (o:=o) (ops:=ops) (by simp [ho,Op.operands,Call.operands]) hs.tab hf
 obtain ⟨hM1,hM2⟩:=xi (F:=F) (m':=z_ T e u (ovr l off (List.replicate n d))) hM
 have hrow:=hs.own _ (List.mem_of_getElem? hM1)
 obtain ⟨g',N',cap',c',h1,h2⟩:=hxr.rs
 rcases hrow.2 with ⟨h0',h0⟩ | ⟨g,cap,cur,h',_,hg,hnc,hcm,hcs,htake⟩
 ·rw [h1] at h0'; cases h0'
 rw [h'] at h1
 simp only [Value.slice.injEq,Option.some.injEq,Addr.mk.injEq,and_true] at h1
 obtain ⟨rfl,_⟩:=h1
 obtain ⟨z,hi,hz⟩:=he.info
 obtain ⟨i',hi1,hi2⟩:=Option.map_eq_some_iff.1 hi
 simp only [Prod.mk.injEq] at hi2
 have hzv : ∀ w,(zeroValue e).run P w = .ok z w:=fun w=>by simp [zeroValue,typeInfo,hi1,hi2.1]
 have hcells : (Builtin.zeroCells z.cells n).toList = (List.replicate n d).flatMap T.enc:=by
  have hzk : z.cells.size = T.k:=by rw [← Array.length_toList,hz,T.len]
  unfold Builtin.zeroCells
  simp only [Array.toList_map,Array.toList_range]
  rw [hzk,ze8 z.cells T.k hzk n,hz]
  exact vo T d n
 obtain ⟨c,hc⟩ : ∃ c,c = List.replicate n d:=⟨_,rfl⟩
 have hcl : c.length = n:=by rw [hc]; simp
 rw [← hc] at hcells hM2 hk
 have hfit1 : off + c.length ≤ l.length:=by omega
 have hb1 : (off + c.length) * T.k ≤ l.length * T.k:=Nat.mul_le_mul_right _ hfit1
 have hcap : l.length * T.k ≤ cur.size:=by rw [hcs]; exact Nat.mul_le_mul_right _ hnc
 have hst:=run_storeCells_at P g (off * T.k) e (c.flatMap T.enc) 0 cur w hg (by rw [zei]; rw [Nat.add_mul] at hb1; omega) (fun v hv=>by obtain ⟨x,_,hx⟩:=List.mem_flatMap.1 hv; exact he.one x v hx)
 rw [zei] at hst
 simp only [Nat.add_zero] at hst
 have hr : (Builtin.clear_ #[t] o.type #[a.eval x]).run P w = .ok (.tuple #[]) (w.setRow g (cur.toList.take (off * T.k) ++ c.flatMap T.enc ++ cur.toList.drop (off * T.k + c.length * T.k)).toArray):=by
  rw [h2]
  obtain ⟨m,rfl⟩ : ∃ m,n = m + 1:=⟨n - 1,by omega⟩
  simp [Builtin.clear_,run_underlying hu,hzv,hcells,hst]
 have hrun : (execOp a.eval o).run P w = .ok (.value (.tuple #[])) (w.setRow g (cur.toList.take (off * T.k) ++ c.flatMap T.enc ++ cur.toList.drop (off * T.k + c.length * T.k)).toArray):=by
  simp only [execOp,ho,resolve]
  simp [invoke,builtin,hr]
 unfold Oper.wp; rw [hrun]
 refine hk (vA (.tuple #[])) (M.set i (z_ T e u (ovr l off c))) G _ _ rfl (Gh.le.refl _) ?_ (Rep.va _ _)
 rw [← hM2]
 refine hs.grown hM1 ⟨rfl,rfl,rfl,by simp,fun k _ hk=>setRow_other w g k _ (fun e=>hk (by rw [h']; simp [z_,Value.ownBlock,e]))⟩ ?_ (fun b hb => ?_)
 ·have hlen:=j7 (c:=c) hfit1
  have hE : ((c).flatMap T.enc).length = (c).length * T.k:=zei T _
  have hsz : (cur.toList.take (off * T.k) ++ (c).flatMap T.enc ++ cur.toList.drop (off * T.k + (c).length * T.k)).length = cur.size:=by
   rw [Nat.add_mul] at hb1
   simp only [List.length_append,List.length_take,List.length_drop,hE,Array.length_toList]; omega
  refine ⟨by rw [zei],.inr ⟨g,cap,_,by rw [hlen]; exact h',Nat.zero_le _,setRow_heap w g cur _ e _ hg,by rw [hlen]; exact hnc,hcm, ?_, ?_⟩⟩
  ·rw [← hcs]; simpa using hsz
  ·rw [hlen]
   have h1 : (ovr l off (c)).flatMap T.enc = (l.flatMap T.enc).take (off * T.k) ++ (c).flatMap T.enc ++ (l.flatMap T.enc).drop (off * T.k + (c).length * T.k):=by
    rw [ovr,List.flatMap_append,List.flatMap_append,kc,kw,Nat.add_mul]
   rw [h1,← htake]
   rw [Nat.add_mul] at hb1
   exact ze9 cur.toList _ (off * T.k) _ (l.length * T.k) hE (by omega) (by simpa using hcap)
 ·refine ⟨.inl hb, ?_⟩
  have hb' : u.ownBlock = some b:=hb
  rw [h'] at hb'
  obtain rfl:=Option.some.inj (show some g = some b from hb')
  simpa using (Array.getElem?_eq_some_iff.1 hg).1
theorem zw7 {α : Type} {T : Ty α} {t e : TypeId} {x : Operand} (ho : o.op = .call { callee:=.builtin .clear,args := #[x],argTypes := #[t] }) (hu : P.underlying t = some (.slice e)) (hx : Opd T0 fr x (slA T [])) :
  AO P T0 ops o fr M (fun _ M'=>M' = M) (fun _ _=>False):=fun w0 G F a w next Qc hs hf hk _=>by
 obtain ⟨ad,sn,sc,e1,e2,_⟩:=(hx.use (o:=o) (ops:=ops) (by simp [ho,Op.operands,Call.operands]) hs.tab hf).sl
 simp only [List.length_nil] at e2
 subst e2
 have hr : (Builtin.clear_ #[t] o.type #[a.eval x]).run P w = .ok (.tuple #[]) w:=by
  rw [e1]
  cases ad <;> simp [Builtin.clear_,run_underlying hu]
 have hrun : (execOp a.eval o).run P w = .ok (.value (.tuple #[])) w:=by
  simp only [execOp,ho,resolve]
  simp [invoke,builtin,hr]
 unfold Oper.wp; rw [hrun]
 exact hk (vA (.tuple #[])) M G _ w rfl (Gh.le.refl _) hs (Rep.va _ _)
end
section
variable {T0 : Gh} {N : Fz} {Q : ko} {fr : Fr} {M : List Own} {ops : Array Oper} {o : Oper} {rest : List Oper} {x0 : Nat}
theorem zst {α : Type} {T : Ty α} {t e : TypeId} {x : Operand} {l : List α} {d : α} {by' off n : Nat} {av : α → AV} {u : Value} {f : Own → List Own} (h : AL Tryz.prog T0 N false ops Q rest fr (f (z_ T e u (ovr l off (List.replicate n d))))) (ho : o.op = .call { callee:=.builtin .clear,args := #[x],argTypes := #[t] }:=by rfl) (hg : o.guard = none:=by rfl) (hd : o.dst = none:=by rfl) (hu : Tryz.prog.underlying t = some (.slice e):=by first | exact un_ | fail) (he : El Tryz.prog T e d by' av:=by first | exact el_ | fail)
  (hx : Opd T0 fr x (rsA T.k u off n):=by first | exact oo_ | fail) (hU : UpdF (z_ T e u l) M f:=by first | exact yd | fail) (hn0 : 0 < n:=by first | exact gb_ | fail) (hn : off + n ≤ l.length:=by first | exact gb_ | fail) : AL Tryz.prog T0 N false ops Q (o :: rest) fr M:=by
 obtain ⟨i,k1,k2⟩:=hU.spec
 refine zse hg (z08 i ho hu he hx k1 hn0 hn) hd (fun _ _ h=>h.elim) ?_
 rintro _ _ rfl
 rw [k2] at h; exact h
theorem zk6 {α : Type} {T : Ty α} {t e : TypeId} {x : Operand} (h : AL Tryz.prog T0 N false ops Q rest fr M) (ho : o.op = .call { callee:=.builtin .clear,args := #[x],argTypes := #[t] }:=by rfl) (hg : o.guard = none:=by rfl) (hd : o.dst = none:=by rfl) (hu : Tryz.prog.underlying t = some (.slice e):=by first | exact un_ | fail)
  (hx : Opd T0 fr x (slA T []):=by first | exact oo_ | fail) : AL Tryz.prog T0 N false ops Q (o :: rest) fr M:=by
 refine zse hg (zw7 ho hu hx) hd (fun _ _ h=>h.elim) ?_
 rintro _ _ rfl
 exact h
end
end Go.Proofs.YtgfmjmfphmjdkaaGreatDoor
