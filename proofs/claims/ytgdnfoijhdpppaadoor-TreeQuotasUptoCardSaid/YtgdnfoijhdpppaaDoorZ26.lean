import Derived.Test.YtgdnfoijhdpppaaDoorZ25
set_option linter.unusedVariables false
set_option linter.unusedSimpArgs false
section
namespace Go.Ab
theorem HC.sortGen {P:Program} {f:Nat} {α:Type} [Inhabited α] {enc:α→Value} {srt:List α→List α} (hp:∀ x:α,∃ n,plainN n (enc x)=true) (hsl:∀ l,(srt l).length=l.length)
  (hs:∀ (blk off cap:Nat) (zs:List α) (w:World),Sort.Holds enc w blk off zs.toArray→blk < w.heap.size→zs.length < 4611686018427387904 →
   Calls P f #[.slice (some ⟨blk,off,none⟩) zs.length cap] w fun e w'=>e=.returned (.tuple #[])∧∃ n os,w' = Sort.grow (Sort.putRow enc (Sort.ahead w n) blk off (srt zs).toArray) os)
  {h:AH} {k off len cap:Nat} {c:Array Value} {e:TypeId} {s:Option Nat} (hk:h.get k=some (.cells c e (0,0),s)) (zs:List α) (hc:∀ (i:Nat) x,zs[i]?=some x→c[off + i]?=some (enc x)) (hl:zs.length=len) (h0:0 < len) (hsz:len < 4611686018427387904) :
  HC P f #[.slice (some ⟨k,off,none⟩) len cap] h fun r g=>r=.ret (.tuple #[])∧g=h.put k (some (.cells (setFrom c off ((srt zs).map enc)) e (0,0),s)):=by
 subst hl
 intro E w args' r ra
 have hlen:off + (srt zs).length ≤ c.size:=by
  rw [hsl]
  have:=(Array.getElem?_eq_some_iff.1 (hc (zs.length - 1) zs[zs.length - 1] (List.getElem?_eq_getElem (by omega)))).1
  omega
 have key:∀ b cap',E.at_ k=some b→args' = #[.slice (some ⟨b,off,none⟩) zs.length cap'] →
   Calls P f args' w fun e2 w'=>∃ E' r h',Res.rel E' r e2∧RW P E' h' w'∧Ext E w E' w'∧(r=.ret (.tuple #[])∧h' = h.put k (some (.cells (setFrom c off ((srt zs).map enc)) e (0,0),s))):=by
  intro b cap' hat ea
  subst ea
  refine (hs b off cap' zs w (r.holds _ hp hk hat zs hc) (r.dom k b hat).2 hsz).mono ?_
  rintro e3 w' ⟨rfl,m,os,rfl⟩
  obtain ⟨q1,q2⟩:=r.putRow enc hp hk hat _ hlen m os
  exact ⟨E,.ret (.tuple #[]),_,.tuple rfl fun i v v' h _=>by simp at h,q1,q2,rfl,rfl⟩
 obtain ⟨v,e1,hv⟩:=one_of ra
 subst e1
 generalize hz:zs.length=z at hv key h0
 cases hv with
 | slice hat _=>exact key _ _ hat rfl
 | softSlice hat _ _ _ _=>exact key _ _ hat rfl
 | stub _=>exact absurd h0 (Nat.lt_irrefl 0)
theorem flatC_enc {α:Type} {enc:α→Value} (h1:∀ x,(enc x).cells = #[enc x]) (l:List α):flatC (l.map enc)=l.map enc:=by
 induction l with
 | nil=>rfl
 | cons a l ih =>
  show (enc a).cells.toList++flatC (l.map enc)=_
  rw [ih,h1];rfl
theorem HC.sortHldG {P:Program} {f:Nat} {α:Type} [Inhabited α] {enc:α→Value} {srt:List α→List α} (hp:∀ x:α,∃ n,plainN n (enc x)=true) (h1:∀ x,(enc x).cells = #[enc x]) (hsl:∀ l,(srt l).length=l.length) (hnil:srt []=[])
  (hs:∀ (blk off cap:Nat) (zs:List α) (w:World),Sort.Holds enc w blk off zs.toArray→blk < w.heap.size→zs.length < 4611686018427387904 →
   Calls P f #[.slice (some ⟨blk,off,none⟩) zs.length cap] w fun e w'=>e=.returned (.tuple #[])∧∃ n os,w' = Sort.grow (Sort.putRow enc (Sort.ahead w n) blk off (srt zs).toArray) os)
  (hn:∀ h,Ex P f #[.slice none 0 0] h (.tuple #[]) h) {h:AH} {e lo:Nat} {s:Value} {l:List α} (o:Hld e 1 h lo s (l.map enc)) (hsz:l.length < 4611686018427387904) :
  HC P f #[s] h fun r g=>r=.ret (.tuple #[])∧Hld e 1 g lo s ((srt l).map enc)∧Kp lo h g:=by
 generalize hm:l.map enc=m at o
 cases o with
 | nil =>
  have:l=[]:=by simpa using hm
  subst this
  refine (hn h).mono fun r g ⟨e1,e2⟩=>⟨e1,?_,by rw [e2];exact .refl _ _⟩
  rw [hnil]
  exact Hld.nil
 | row hk hg hc hpz =>
  subst hm
  rename_i k c
  rw [List.length_map] at hpz
  rw [flatC_enc h1] at hc
  subst hc
  refine (HC.sortGen hp hsl hs (off:=0) (len:=(l.map enc).length) (cap:=(l.map enc).length) hg l (fun i x hx=>by simp [hx]) (by simp) (by simpa using hpz) (by simpa using hsz)).mono fun r g ⟨e1,e2⟩=>⟨e1,?_,?_⟩
  ·subst e2
   rw [setFrom_allS (by simp [hsl])]
   have:=Hld.row (e:=e) (z:=1) (h:=h.put k (some (.cells ((srt l).map enc).toArray e (0,0),some 1))) (lo:=lo) (k:=k) (l:=(srt l).map enc) hk (get_put_eq rfl) (by rw [flatC_enc h1]) (by simpa [hsl] using hpz)
   simpa [hsl] using this
  ·subst e2
   exact (Kp.refl lo h).put _ _ hk
end Go.Ab
end
section
namespace Go.Proofs.YtgdnfoijhdpppaaDoor.L
open Go.Ab Go.Tr Go.Mh Go.Proofs.YtgdnfoijhdpppaaDoor.X
set_option maxRecDepth 100000
theorem loop_at {h:AH} {k:Nat} {r:Loop} {s:Option Nat} (g:h.get k=some (.loop r,s)):loopAt h k=some (r,s):=by
 unfold loopAt
 rw [g]
theorem strs_one (l:List Nm):∀ v ∈ strs l,v.cells.size=1:=by
 intro v hv
 obtain ⟨x,_,rfl⟩:=List.mem_map.1 hv
 rfl
theorem ent_inj {σ:St} {p:Pt} {x y:Nm × Nat} (h:ent σ p x=ent σ p y):x=y:=by
 have h1:(ent σ p x).key=(ent σ p y).key:=by rw [h]
 have h2:(ent σ p x).born=(ent σ p y).born:=by rw [h]
 have h3:Value.string (mkB x.1)=.string (mkB y.1):=h1
 injection h3 with h3
 exact Prod.ext (mkB_inj h3) h2
theorem keys_loop {h0:AH} {lo:Nat} {σ:St} {K:List Pt} (t:TW h0 lo σ) (o:OkD σ K) {p:Pt} {b m clk:Nat} {q c:Int} {ks:List (Nm × Nat)} (hp:σ p=some (.dir b m clk q c ks)) (hks:ks.length ≤ 1099511627) {rc:Loop} (hrc:rc=rec47_2 (ptr h0.size)) {Q:Res→AH→Prop}
  (hq:∀ (us:List (Nm × Nat)) s h',(∀ x,x ∈ us ↔ x ∈ ks)→us.length=ks.length→(us.map (·.1)).Nodup→Kp h0.size h0 h'→h'.get h0.size=some (.cells #[s] 27 (0,0),none)→h'.get (h0.size + 1)=some (.loop rc,none) →
   Hld 9 1 h' (h0.size + 3) s (strs (us.map (·.1)))→Q (.ret (.tuple #[])) h') :
  ∀ (d:Nat) (us:List (Nm × Nat)) (s:Value) (h:AH),ks.length < us.length + d→(∀ x ∈ us,x ∈ ks)→Kp h0.size h0 h→h0.size + 3 ≤ h.size→h.get h0.size=some (.cells #[s] 27 (0,0),none)→h.get (h0.size + 1)=some (.loop rc,none) →
   Walk h (h0.size + 2) m (ks.map (ent σ p)).toArray (us.map (ent σ p))→Hld 9 1 h (h0.size + 3) s (strs (us.map (·.1)))→(∀ k,blkOf s=some k→k < h.size) →
   H39_1 (.chan (some (h0.size + 1))) (ptr (h0.size + 2)) h Q:=by
 have hst:rc.state=.ready:=by rw [hrc];rfl
 have hpe:rc.pending=none:=by rw [hrc];rfl
 have hm:m < h0.size:=(t.bnd p _ m hp (by simp [own])).2
 intro d
 induction d with
 | zero =>
  intro us s h hd hsub K0 hs g1 g2 hw hH hb
  have:=hw.length
  simp at this;omega
 | succ d ih =>
  intro us s h hd hsub K0 hs g1 g2 hw hH hb
  refine X39_1_ok ?_
  unfold X39_1
  refine hw.next (by omega) (fun hperm=>?_) (fun e h2 he hne hs2 hk2 hw2=>?_)
  ·simp (disch:=(first | omega | (simp only [beq_iff_eq,sz_push,sz_put,SC,Nat.reduceAdd,Nat.reduceLeDiff];done) | (simp only [beq_iff_eq,ne_eq,sz_push,sz_put];omega) | assumption | fail)) only [over_eq,SXB,SX,reduceIte,Int.reduceLT,Int.reduceLE,Int.reduceToNat,Int.reduceBEq,Int.reduceBNe,Nat.reduceAdd,Nat.reduceMul,Nat.reduceSub,Nat.reduceLeDiff]
   refine hq us s h (fun x=>⟨hsub x,fun hx=>?_⟩) ?_ ?_ K0 g1 g2 hH
   ·have h1:ent σ p x ∈ us.map (ent σ p):=hperm.mem_iff.2 (by simpa using ⟨x.1,x.2,hx,rfl⟩)
    obtain ⟨y,hy,e⟩:=List.mem_map.1 h1
    rw [← ent_inj e];exact hy
   ·have:=hperm.length_eq
    simpa using this
   ·have e1:∀ l:List (Nm × Nat),(l.map (ent σ p)).map (·.key)=(l.map (·.1)).map fun x=>Value.string (mkB x):=fun l=>by rw [List.map_map,List.map_map];rfl
    have h1:=hperm.map (·.key)
    rw [List.toList_toArray,e1,e1] at h1
    exact nodup_of_map (h1.nodup_iff.2 (nodup_map_inj (fun x y h=>by injection h with h;exact mkB_inj h) (o.knod _ _ _ _ _ _ _ hp)))
  ·rw [List.toList_toArray] at he
   obtain ⟨x,hx,rfl⟩:=List.mem_map.1 he
   have hent:opEntry h2 (ptr (h0.size + 2))=some (.tuple #[.string (mkB x.1),ifc (σ (p++[x.1]))]):=by
    rw [hw2.entry]
    rfl
   have K2:Kp h0.size h0 h2:=⟨by have:=K0.size;omega,fun j hj=>(hk2 j (by omega)).trans (K0.get j hj)⟩
   have g1':=(hk2 h0.size (by omega)).trans g1
   have g2':=(hk2 (h0.size + 1) (by omega)).trans g2
   have hH2:Hld 9 1 h2 (h0.size + 3) s (strs (us.map (·.1))):=hH.mono fun k hk=>hk2 k (by have:=hH.key k hk;omega)
   simp (disch:=(first | omega | (simp only [beq_iff_eq,sz_push,sz_put,SC,Nat.reduceAdd,Nat.reduceLeDiff];done) | (simp only [beq_iff_eq,ne_eq,sz_push,sz_put];omega) | assumption | fail)) only [hent,SXB,SX,reduceIte,Int.reduceLT,Int.reduceLE,Int.reduceToNat,Int.reduceBEq,Int.reduceBNe,Nat.reduceAdd,Nat.reduceMul,Nat.reduceSub,Nat.reduceLeDiff]
   have hrc2:rc = { rec47_2 (ptr h0.size) with state:=.ready,pending:=none }:=by rw [hrc];rfl
   refine Y47_2_ok (t2:=ptr h0.size) (st:=.ready) (pe:=none) (s:=none) (loop_at (hrc2 ▸ g2')) ?_
   unfold Y47_2
   refine bq_of (loop_at g2') ⟨hst,?_⟩
   have KB:∀ k,k ≠ h0.size + 1→(h2.put (h0.size + 1) (some (.loop { rc with state:=.busy },none))).get k=h2.get k:=fun k hk=>get_put_ne hk
   have glb:(h2.put (h0.size + 1) (some (.loop { rc with state:=.busy },none))).get (h0.size + 1)=some (.loop { rc with state:=.busy },none):=get_put_eq rfl
   have zb:(h2.put (h0.size + 1) (some (.loop { rc with state:=.busy },none))).size=h2.size:=by simp
   dsimp only
   generalize h2.put (h0.size + 1) (some (.loop { rc with state:=.busy },none))=hb1 at KB glb zb ⊢
   have g1b:=(KB h0.size (by omega)).trans g1'
   have hHb:Hld 9 1 hb1 (h0.size + 3) s (strs (us.map (·.1))):=hH2.mono fun k hk=>KB k (by have:=hH.key k hk;omega)
   have hlen:(strs (us.map (·.1))).length ≤ 1099511627:=by
    have:=hw.length
    unfold strs
    simp at this ⊢;omega
   obtain ⟨s',h3,a1,a2,a3,a4,a5⟩:=hHb.append1 (v:=.string (mkB x.1)) (c:=#[.string (mkB x.1)]) (bytes:=16) (zero:=.string ⟨#[]⟩) rfl (fun k hk=>by have:=hb k hk;omega) (by omega) (strs_one _) rfl (by simp [one_string]) (by omega) (by omega) (by omega) rfl (by omega)
   have hks2:∀ k,blkOf s=some k→h0.size + 3 ≤ k:=fun k hk=>hH.key k hk
   have g1c:h3.get h0.size=some (.cells #[s] 27 (0,0),none):=(a4 _ (by omega) fun e=>by have:=hks2 _ e;omega).trans g1b
   have glc:h3.get (h0.size + 1)=some (.loop { rc with state:=.busy },none):=(a4 _ (by omega) fun e=>by have:=hks2 _ e;omega).trans glb
   have gw:∀ k,k < h2.size→k ≠ h0.size + 1→k < h0.size + 3→h3.get k=h2.get k:=fun k h1 h4 h5=>(a4 k (by omega) fun e=>by have:=hks2 k e;omega).trans (KB k h4)
   obtain ⟨va,vn,vc,rfl⟩:=a2.isSl
   simp (disch:=(first | omega | (simp only [beq_iff_eq,sz_push,sz_put,SC,Nat.reduceAdd,Nat.reduceLeDiff];done) | (simp only [beq_iff_eq,ne_eq,sz_push,sz_put];omega) | assumption | fail)) only [g1b,a1,g1c,SXB,SX,reduceIte,Int.reduceLT,Int.reduceLE,Int.reduceToNat,Int.reduceBEq,Int.reduceBNe,Nat.reduceAdd,Nat.reduceMul,Nat.reduceSub,Nat.reduceLeDiff]
   unfold endRd
   refine bq_of (loop_at ((get_put_ne (by omega)).trans glc)) ?_
   simp (disch:=(first | omega | (simp only [beq_iff_eq,sz_push,sz_put,SC,Nat.reduceAdd,Nat.reduceLeDiff];done) | (simp only [beq_iff_eq,ne_eq,sz_push,sz_put];omega) | assumption | fail)) only [SXB,SX,reduceIte,Int.reduceLT,Int.reduceLE,Int.reduceToNat,Int.reduceBEq,Int.reduceBNe,Nat.reduceAdd,Nat.reduceMul,Nat.reduceSub,Nat.reduceLeDiff]
   refine ih (us++[x]) (.slice va vn vc) _ (by simp;omega) (fun y hy=>?_) ⟨by simp only [sz_put];have:=K2.size;omega,fun k hk=>?_⟩ (by simp only [sz_put];omega) ?_ ?_ ?_ ?_ ?_
   ·rcases List.mem_append.1 hy with hy | hy
    ·exact hsub y hy
    ·rw [List.mem_singleton.1 hy];exact hx
   ·rw [get_put_ne (by omega),get_put_ne (by omega),gw k (by omega) (by omega) (by omega)]
    exact K2.get k hk
   ·rw [get_put_ne (by omega),get_put_eq rfl]
   ·rw [get_put_eq rfl]
    congr 3
    obtain ⟨f1,f2,f3,f4,f5,f6,f7,f8⟩:=rc
    simp only at hst hpe
    subst hst hpe
    rfl
   ·rw [List.map_append]
    refine hw2.mono ?_ ?_
    ·rw [get_put_ne (by omega),get_put_ne (by omega),gw _ (by omega) (by omega) (by omega)]
    ·rw [get_put_ne (by omega),get_put_ne (by omega),gw _ (by omega) (by omega) (by omega)]
   ·have e1:strs ((us++[x]).map (·.1))=strs (us.map (·.1))++[.string (mkB x.1)]:=by unfold strs;simp
    rw [e1]
    exact a2.mono fun k hk=>(get_put_ne (by have:=a2.key k hk;omega)).trans (get_put_ne (by have:=a2.key k hk;omega))
   ·intro k hk
    simp only [sz_put]
    rcases a5 with e5 | ⟨j,e5,_,e6⟩
    ·rw [e5] at hk;have:=hb k hk;omega
    ·rw [e5] at hk;cases hk;exact e6
end Go.Proofs.YtgdnfoijhdpppaaDoor.L
end
section
namespace Go.Proofs.YtgdnfoijhdpppaaDoor.L
open Go.Ab Go.Tr Go.Mh Go.Proofs.YtgdnfoijhdpppaaDoor.X
set_option maxRecDepth 100000
def srtN (l:List Nm):List Nm:=l.mergeSort fun x y=>decide (x ≤ y)
theorem sort_ok {h:AH} {lo:Nat} {s:Value} {l:List Nm} (o:Hld 9 1 h lo s (strs l)) (hsz:l.length ≤ 1099511627) :
  HC Tryd.prog 38 [s].toArray h fun r g=>r=.ret (.tuple #[])∧Hld 9 1 g lo s (strs (srtN l))∧Kp lo h g:=by
 have e:∀ l:List Nm,strs l=l.map encStr:=fun l=>rfl
 rw [e] at o
 rw [e]
 exact HC.sortHldG (srt:=srtN) (fun x=>⟨1,rfl⟩) (fun x=>rfl) (fun l=>by unfold srtN;rw [List.length_mergeSort]) (by simp [srtN])
  (fun blk off cap zs w hH hblk hsz=>Tryd.slices_Sort_string blk off cap zs w hH hblk hsz) (fun h=>Ex.of_calls (n:=3) rfl rfl fun w=>Tryd.slices_Sort_string_none none 0 w) o (by omega)
theorem appSeq_ok {h:AH} {lo:Nat} {σ:St} {K:List Pt} (t:TW h lo σ) (o:OkD σ K) {p:Pt} {b m clk:Nat} {q c:Int} {ks:List (Nm × Nat)} (hp:σ p=some (.dir b m clk q c ks)) (hks:ks.length ≤ 1099511627) {k0:Nat} (g0:h.get k0=some (.cells #[.map (some m)] 65 (0,0),none)) (hk0:k0 < h.size) {Q:Res→AH→Prop}
  (hq:∀ (us:List (Nm × Nat)) s h',(∀ x,x ∈ us ↔ x ∈ ks)→us.length=ks.length→(us.map (·.1)).Nodup→Kp h.size h h'→Hld 9 1 h' h.size s (strs (us.map (·.1)))→Q (.ret s) h') :
  HC Tryd.prog 47 [.slice none 0 0,.func (.func 39) #[] #[ptr k0]].toArray h Q:=by
 refine X47_ok ?_
 unfold X47
 have e1:(opNew h 27 (Value.slice none 0 0).cells).1=ptr h.size:=rfl
 have e2:(opNew h 27 (Value.slice none 0 0).cells).2=h.push (.cells #[.slice none 0 0] 27 (0,0)) none:=rfl
 simp only [e1,e2]
 have hm:m < h.size:=(t.bnd p _ m hp (by simp [own])).2
 have z1:(h.push (.cells #[.slice none 0 0] 27 (0,0)) none).size=h.size + 1:=by simp
 refine ⟨trivial,?_⟩
 show hasBody Tryd.prog 39=true∧HC Tryd.prog 39 _ _ _
 refine ⟨hb_39,?_⟩
 obtain ⟨rc,hrc⟩:∃ rc,rc=rec47_2 (ptr h.size):=⟨_,rfl⟩
 have hst:rc.state=.ready:=by rw [hrc];rfl
 have hpe:rc.pending=none:=by rw [hrc];rfl
 rw [← hrc]
 refine X39_ok ?_
 unfold X39
 have gk0:((h.push (.cells #[.slice none 0 0] 27 (0,0)) none).push (.loop rc) none).get k0=some (.cells #[.map (some m)] 65 (0,0),none):=by
  rw [get_push_ne (by simp;omega),get_push_ne (by omega)];exact g0
 obtain ⟨g1,g2,g3⟩:=t.dir hp
 have gm:((h.push (.cells #[.slice none 0 0] 27 (0,0)) none).push (.loop rc) none).get m=some (.map (ks.map (ent σ p)).toArray clk,none):=by
  rw [get_push_ne (by simp;omega),get_push_ne (by omega)];exact g2
 obtain ⟨n1,n2⟩:=born_ok o hp
 have hw:=Walk.start (h:=(h.push (.cells #[.slice none 0 0] 27 (0,0)) none).push (.loop rc) none) (es:=(ks.map (ent σ p)).toArray) gm (by simp;omega) n2 n1
 have zz:((h.push (.cells #[.slice none 0 0] 27 (0,0)) none).push (.loop rc) none).size=h.size + 2:=by simp
 rw [zz] at hw
 simp (disch:=(first | omega | (simp only [beq_iff_eq,sz_push,sz_put,SC,Nat.reduceAdd,Nat.reduceLeDiff];done) | (simp only [beq_iff_eq,ne_eq,sz_push,sz_put];omega) | assumption | fail)) only [gk0,gm,zz,SXB,SX,reduceIte,Int.reduceLT,Int.reduceLE,Int.reduceToNat,Int.reduceBEq,Int.reduceBNe,Nat.reduceAdd,Nat.reduceMul,Nat.reduceSub,Nat.reduceLeDiff]
 refine keys_loop t o hp hks hrc (fun us s h' h1 h2 hnd h3 h4 h5 h6=>?_) (ks.length + 1) [] (.slice none 0 0) _ (by simp) (fun x hx=>by cases hx) ?_ (by simp) ?_ ?_ hw .nil (fun k hk=>by cases hk)
 ·show bq (loopAt h' (h.push (.cells #[.slice none 0 0] 27 (0,0)) none).size) _
  rw [z1]
  refine bq_of (loop_at h5) ⟨(by rw [hst];intro e;cases e),?_⟩
  rw [hpe]
  have h4':(h'.put (h.size + 1) none).get h.size=some (.cells #[s] 27 (0,0),none):=by rw [get_put_ne (by omega)];exact h4
  show bq ((rowC ((h'.put (h.size + 1) none).get h.size)).bind fun c=>c[0]?) _
  rw [h4']
  refine bq_of (x:=s) rfl ?_
  refine hq us s _ h1 h2 hnd (h3.put _ _ (by omega)) ?_
  exact (h6.lo (by omega)).mono fun k hk=>get_put_ne (by have:=h6.key k hk;omega)
 ·exact (((Kp.refl h.size h).push _ _ (Nat.le_refl _)).push _ _ (by simp)).push _ _ (by simp;omega)
 ·rw [get_push_ne (by simp;omega),get_push_ne (by simp),get_push_eq rfl]
 ·rw [get_push_ne (by simp),get_push_eq (by simp)]
theorem srtN_mem {l:List Nm} {x:Nm}:x ∈ srtN l ↔ x ∈ l:=by unfold srtN;exact List.mem_mergeSort
theorem srtN_len (l:List Nm):(srtN l).length=l.length:=by unfold srtN;exact List.length_mergeSort l
theorem flatC_strs (l:List Nm):flatC (strs l)=strs l:=flatC_one fun v hv=>by
 obtain ⟨x,_,rfl⟩:=List.mem_map.1 hv
 rfl
theorem sorted_ok {h:AH} {lo:Nat} {σ:St} {K:List Pt} (t:TW h lo σ) (o:OkD σ K) {p:Pt} {b m clk:Nat} {q c:Int} {ks:List (Nm × Nat)} (hp:σ p=some (.dir b m clk q c ks)) (hks:ks.length ≤ 1099511627) {k0:Nat} (g0:h.get k0=some (.cells #[.map (some m)] 65 (0,0),none)) (hk0:k0 < h.size) {Q:Res→AH→Prop}
  (hq:∀ ns:List Nm,(∀ x,x ∈ ns ↔ x ∈ ks.map (·.1))→ns.Nodup→ns.length=ks.length→Q (.ret (slV (strs ns))) h) :
  HC Tryd.prog 30 [.func (.func 39) #[] #[ptr k0]].toArray h Q:=by
 refine HC.pureF (HC.ghOr (X30_ok ?_))
 unfold X30
 simp (disch:=(first | omega | (simp only [beq_iff_eq,sz_push,sz_put,SC,Nat.reduceAdd,Nat.reduceLeDiff];done) | (simp only [beq_iff_eq,ne_eq,sz_push,sz_put];omega) | assumption | fail)) only [SXB,SX,reduceIte,Int.reduceLT,Int.reduceLE,Int.reduceToNat,Int.reduceBEq,Int.reduceBNe,Nat.reduceAdd,Nat.reduceMul,Nat.reduceSub,Nat.reduceLeDiff]
 refine X37_ok ?_
 unfold X37
 simp (disch:=(first | omega | (simp only [beq_iff_eq,sz_push,sz_put,SC,Nat.reduceAdd,Nat.reduceLeDiff];done) | (simp only [beq_iff_eq,ne_eq,sz_push,sz_put];omega) | assumption | fail)) only [SXB,SX,reduceIte,Int.reduceLT,Int.reduceLE,Int.reduceToNat,Int.reduceBEq,Int.reduceBNe,Nat.reduceAdd,Nat.reduceMul,Nat.reduceSub,Nat.reduceLeDiff]
 refine appSeq_ok t o hp hks g0 hk0 fun us s h' h1 h2 hnd h3 h4=>?_
 simp (disch:=(first | omega | (simp only [beq_iff_eq,sz_push,sz_put,SC,Nat.reduceAdd,Nat.reduceLeDiff];done) | (simp only [beq_iff_eq,ne_eq,sz_push,sz_put];omega) | assumption | fail)) only [SXB,SX,reduceIte,Int.reduceLT,Int.reduceLE,Int.reduceToNat,Int.reduceBEq,Int.reduceBNe,Nat.reduceAdd,Nat.reduceMul,Nat.reduceSub,Nat.reduceLeDiff]
 refine HC.mono (sort_ok h4 (by simp;omega)) fun rr g hp2=>?_
 obtain ⟨rfl,hH,K2⟩:=hp2
 simp (disch:=(first | omega | (simp only [beq_iff_eq,sz_push,sz_put,SC,Nat.reduceAdd,Nat.reduceLeDiff];done) | (simp only [beq_iff_eq,ne_eq,sz_push,sz_put];omega) | assumption | fail)) only [SXB,SX,reduceIte,Int.reduceLT,Int.reduceLE,Int.reduceToNat,Int.reduceBEq,Int.reduceBNe,Nat.reduceAdd,Nat.reduceMul,Nat.reduceSub,Nat.reduceLeDiff]
 obtain ⟨h5,gu,gf,gs⟩:=hH.turn (P:=Tryd.prog) (by omega) (strs_one _)
 refine .inl ⟨_,_,h5,rfl,Gh.turn gu .here,?_,?_,hq (srtN (us.map (·.1))) (fun x=>?_) ?_ ?_⟩
 ·refine h3.trans ⟨by have:=K2.size;omega,fun k hk=>?_⟩
  rw [gf k fun e=>by have:=hH.key k e;omega]
  exact K2.get k hk
 ·exact below_slV (by rw [flatC_strs];intro v hv;obtain ⟨x,_,rfl⟩:=List.mem_map.1 hv;exact .string _)
 ·rw [srtN_mem,List.mem_map,List.mem_map]
  exact ⟨fun ⟨y,hy,e⟩=>⟨y,(h1 y).1 hy,e⟩,fun ⟨y,hy,e⟩=>⟨y,(h1 y).2 hy,e⟩⟩
 ·exact (List.mergeSort_perm _ _).nodup_iff.2 hnd
 ·rw [srtN_len,List.length_map,h2]
end Go.Proofs.YtgdnfoijhdpppaaDoor.L
end
section
namespace Go.Proofs.YtgdnfoijhdpppaaDoor.L
open Go.Ab Go.Tr Go.Mh Go.Proofs.YtgdnfoijhdpppaaDoor.X
set_option maxRecDepth 100000
def entryR (p:Pt):Row→Value
 | .file b sl o hd ps=>.agg #[.string (mkB (joinL p)),.bool false,.bool o,.int .i64 hd,.int .i64 0,slV (ps.map encPc)]
 | .dir b m clk q c ks=>.agg #[.string (mkB (joinL p)),.bool true,.bool false,.int .i64 0,.int .i64 q,.slice none 0 0]
def entryV (σ:St) (p:Pt):Value:=match σ p with
 | some r=>entryR p r
 | none=>.agg #[.string (mkB (joinL p)),.bool false,.bool false,.int .i64 0,.int .i64 0,.slice none 0 0]
theorem entryV_size (σ:St) (p:Pt):(entryV σ p).cells.size=6:=by
 unfold entryV
 split
 ·rename_i r _
  cases r <;> rfl
 ·rfl
theorem entryV_one (σ:St) (p:Pt):∀ v ∈ (entryV σ p).cells.toList,v.oneCell' = true:=by
 intro v hv
 unfold entryV at hv
 split at hv
 ·rename_i r _
  cases r with
  | file b sl o hd ps =>
   simp only [entryR,cells_agg,List.mem_cons,List.not_mem_nil,or_false] at hv
   rcases hv with rfl | rfl | rfl | rfl | rfl | rfl <;> first | rfl | exact one_slV _
  | dir b m clk q c ks =>
   simp only [entryR,cells_agg,List.mem_cons,List.not_mem_nil,or_false] at hv
   rcases hv with rfl | rfl | rfl | rfl | rfl | rfl <;> rfl
 ·simp only [cells_agg,List.mem_cons,List.not_mem_nil,or_false] at hv
  rcases hv with rfl | rfl | rfl | rfl | rfl | rfl <;> rfl
theorem path_size {p:Pt} (h:validL p=true):(mkB (joinL p)).size ≤ 256:=by
 rw [mkB_size]
 unfold joinL
 split
 ·simp
 ·unfold validL at h
  simp only [Bool.and_eq_true,decide_eq_true_eq] at h
  exact h.2
theorem joinL_root {p:Pt} (h:validL p=true):joinL p=[47] ↔ p=[]:=by
 constructor
 ·intro e
  have:=(ok_join h).2
  rw [e] at this
  rw [← this];decide
 ·rintro rfl;rfl
theorem joinL_snoc {p:Pt} (hp:p ≠ []) (x:Nm):joinL (p++[x])=joinL p++[47]++x:=by
 unfold joinL
 rw [if_neg (by simp),if_neg hp,flat_append,flat_cons,flat_nil,List.append_nil]
 simp
theorem mkB_app (a b:List UInt8):mkB a++mkB b=mkB (a++b):=ba_ext (by rw [mkB_data];simp [mkB])
def preB (p:Pt):ByteArray:=if p=[] then mkB [47] else mkB (joinL p)++mkB [47]
theorem preB_app (p:Pt) (x:Nm):preB p++mkB x=mkB (joinL (p++[x])):=by
 unfold preB
 by_cases hp:p=[]
 ·subst hp
  rw [if_pos rfl,mkB_app]
  congr 1
  unfold joinL
  simp [Mh.flat]
 ·rw [if_neg hp,mkB_app,mkB_app,joinL_snoc hp]
theorem preB_size {p:Pt} (h:validL p=true):(preB p).size ≤ 257:=by
 unfold preB
 split
 ·rw [mkB_size];simp
 ·have:=path_size h
  rw [ByteArray.size_append,mkB_size [47]];simp;omega
theorem sum_add {α:Type} (f g:α→Nat) (l:List α):(l.map fun x=>f x + g x).sum=(l.map f).sum + (l.map g).sum:=by
 induction l with
 | nil=>rfl
 | cons a l ih=>simp only [List.map_cons,List.sum_cons,ih];omega
theorem sum_zero {α:Type} (l:List α):(l.map fun _=>(0:Nat)).sum=0:=by
 induction l with
 | nil=>rfl
 | cons a l ih=>simp only [List.map_cons,List.sum_cons,ih]
theorem one_kid (p k:Pt):∀ ns:List Nm,ns.Nodup→(ns.map fun nm=>if within (p++[nm]) k then 1 else 0).sum ≤ if below p k then 1 else 0:=by
 intro ns
 induction ns with
 | nil=>intro _;simp
 | cons x ns ih =>
  intro hn
  rw [List.nodup_cons] at hn
  have h1:=ih hn.2
  rw [List.map_cons,List.sum_cons]
  cases hw:within (p++[x]) k with
  | false=>simpa using h1
  | true =>
   obtain ⟨r,rfl⟩:=Tr.within_iff.1 hw
   have hb:Tr.below p (p++[x]++r)=true:=below_iff.2 ⟨[x]++r,by simp,by simp⟩
   have h2:(ns.map fun nm=>if within (p++[nm]) (p++[x]++r) then 1 else 0).sum=0:=by
    have:ns.map (fun nm=>if within (p++[nm]) (p++[x]++r) then 1 else 0)=ns.map fun _=>0:=by
     refine List.map_congr_left fun nm hnm=>?_
     rw [if_neg]
     intro h3
     obtain ⟨r',h4⟩:=Tr.within_iff.1 h3
     rw [List.append_assoc,List.append_assoc] at h4
     have h5:=List.append_cancel_left h4
     simp only [List.cons_append,List.nil_append,List.cons.injEq] at h5
     exact hn.1 (h5.1 ▸ hnm)
    rw [this]
    exact sum_zero ns
   rw [h2,if_pos hb]
   simp
theorem sum_kids (p:Pt) (K:List Pt) {ns:List Nm} (hn:ns.Nodup):(ns.map fun nm=>(K.filter (within (p++[nm]))).length).sum ≤ (K.filter (below p)).length:=by
 induction K with
 | nil=>simp only [List.filter_nil,List.length_nil];exact Nat.le_of_eq (sum_zero ns)
 | cons k K ih =>
  have h1:=one_kid p k ns hn
  have h2:(ns.map fun nm=>((k::K).filter (within (p++[nm]))).length)=ns.map fun nm=>(if within (p++[nm]) k then 1 else 0) + (K.filter (within (p++[nm]))).length:=by
   refine List.map_congr_left fun nm _=>?_
   rw [List.filter_cons]
   split <;> simp <;> omega
  rw [h2,sum_add,List.filter_cons]
  split
  ·rename_i hb
   rw [if_pos hb] at h1
   simp only [List.length_cons];omega
  ·rename_i hb
   rw [if_neg hb] at h1
   omega
theorem look_kid2 {h:AH} {lo:Nat} {σ:St} {K:List Pt} (t:TW h lo σ) (o:OkD σ K) {p:Pt} {b m clk:Nat} {q c:Int} {ks:List (Nm × Nat)} (hp:σ p=some (.dir b m clk q c ks)) {nm:Nm} {r:Row} (hr:σ (p++[nm])=some r) :
  opLookup Tryd.prog h 65 (.map (some m)) (.string (mkB nm)) false=some (ifcR r):=by
 obtain ⟨_,h2,_⟩:=t.dir hp
 rw [opLookup_eq map_und node_zero rfl h2 find_kid]
 have hk:=o.kids _ _ _ _ _ _ _ hp nm
 rw [hr] at hk
 obtain ⟨x,hx,hxn⟩:=List.mem_map.1 (hk.2 rfl)
 obtain ⟨i,y,e1,e2,e3⟩:=findW_mem (p:=fun x=>x.1 == nm) hx (by simpa using hxn)
 rw [e1]
 have e4:y.1=nm:=by simpa using e3
 show some (ifc (σ (p++[y.1])))=_
 rw [e4,hr]
 rfl
theorem gather_all {h0:AH} {lo:Nat} {σ:St} {K:List Pt} (t0:TW h0 lo σ) (o:OkD σ K) (hv:∀ p ∈ K,validL p=true) (hK:K.length ≤ 1000000000):∀ (n:Nat) (p:Pt) (r:Row) (L:List Value) (s:Value) (h:AH),(K.filter (below p)).length < n→σ p=some r→Kp h0.size h0 h →
  Hld 44 6 h h0.size s L→(∀ v ∈ L,v.cells.size=6)→(∀ k,blkOf s=some k→k < h.size)→L.length + (K.filter (within p)).length ≤ 1000000000→∀ {Q:Res→AH→Prop},
  (∀ (M:List Pt) s' h',(∀ x,x ∈ M ↔ within p x=true∧(σ x).isSome=true)→M.length ≤ (K.filter (within p)).length→Kp h0.size h0 h'→Hld 44 6 h' h0.size s' (L++M.map (entryV σ))→(∀ k,blkOf s' = some k→k < h'.size)→Q (.ret s') h') →
  HC Tryd.prog 18 [s,.string (mkB (joinL p)),ifcR r].toArray h Q:=by
 intro n
 induction n with
 | zero=>intro p r L s h hn;omega
 | succ n ih =>
  intro p r L s h hn hp K0 hH hL6 hb hlen Q hq
  have hpK:p ∈ K:=(o.mem p).1 (by rw [hp];rfl)
  have hval:=hv p hpK
  have t:=t0.kp K0
  have hw1:=o.weight hp
  refine X18_ok ?_
  unfold X18
  cases r with
  | file b sl oo hd ps =>
   obtain ⟨g1,g2,g3,g4⟩:=t.file hp
   have hent:entryV σ p=.agg #[.string (mkB (joinL p)),.bool false,.bool oo,.int .i64 hd,.int .i64 0,slV (ps.map encPc)]:=by unfold entryV;rw [hp];rfl
   have hbs:∀ k,blkOf sl=some k→k < h.size:=fun k hk=>(t.bnd p _ k hp (by simp [own,hk])).2
   simp only at hw1
   obtain ⟨s',h',a1,a2,a3,a4,a5⟩:=hH.append1 (v:=entryV σ p) (bytes:=64) (zero:=.agg #[.string ⟨#[]⟩,.bool false,.bool false,.int .i64 0,.int .i64 0,.slice none 0 0]) rfl hb (by have:=K0.size;omega) hL6 (entryV_size σ p) (entryV_one σ p) (by omega) (by omega) (by omega) rfl (by omega)
   rw [hent,cells_agg] at a1
   unfold ifcR
   simp (disch:=(first | omega | (simp only [beq_iff_eq,sz_push,sz_put,SC,Nat.reduceAdd,Nat.reduceLeDiff];done) | (simp only [beq_iff_eq,ne_eq,sz_push,sz_put];omega) | assumption | fail)) only [ta_file,g1,SXB,SX,reduceIte,Int.reduceLT,Int.reduceLE,Int.reduceToNat,Int.reduceBEq,Int.reduceBNe,Nat.reduceAdd,Nat.reduceMul,Nat.reduceSub,Nat.reduceLeDiff]
   refine HC.exact (clone_ok g2 hbs g4) ?_
   simp (disch:=(first | omega | (simp only [beq_iff_eq,sz_push,sz_put,SC,Nat.reduceAdd,Nat.reduceLeDiff];done) | (simp only [beq_iff_eq,ne_eq,sz_push,sz_put];omega) | assumption | fail)) only [g1,a1,SXB,SX,reduceIte,Int.reduceLT,Int.reduceLE,Int.reduceToNat,Int.reduceBEq,Int.reduceBNe,Nat.reduceAdd,Nat.reduceMul,Nat.reduceSub,Nat.reduceLeDiff]
   refine X18_15_ok ?_
   unfold X18_15
   refine hq [p] s' h' (fun x=>?_) (by simp;omega) (K0.trans ⟨a3,fun k hk=>a4 k (by have:=K0.size;omega) fun e=>by have:=hH.key k e;omega⟩) a2 ?_
   ·rw [List.mem_singleton]
    constructor
    ·rintro rfl;exact ⟨within_refl _,by rw [hp];rfl⟩
    ·rintro ⟨h1,h2⟩
     obtain ⟨y,rfl⟩:=Tr.within_iff.1 h1
     by_cases hy:y=[]
     ·subst hy;simp
     ·obtain ⟨_,_,_,_,_,_,h3⟩:=o.ups y p hy h2
      rw [hp] at h3;cases h3
   ·intro k hk
    rcases a5 with e5 | ⟨j,e5,_,e6⟩
    ·rw [e5] at hk;have:=hb k hk;omega
    ·rw [e5] at hk;cases hk;exact e6
  | dir b m clk q c ks =>
   obtain ⟨g1,g2,g3⟩:=t.dir hp
   have hent:entryV σ p=.agg #[.string (mkB (joinL p)),.bool true,.bool false,.int .i64 0,.int .i64 q,.slice none 0 0]:=by unfold entryV;rw [hp];rfl
   simp only at hw1
   have hcnt:=o.count _ _ _ _ _ _ _ hp
   obtain ⟨s',h',a1,a2,a3,a4,a5⟩:=hH.append1 (v:=entryV σ p) (bytes:=64) (zero:=.agg #[.string ⟨#[]⟩,.bool false,.bool false,.int .i64 0,.int .i64 0,.slice none 0 0]) rfl hb (by have:=K0.size;omega) hL6 (entryV_size σ p) (entryV_one σ p) (by omega) (by omega) (by omega) rfl (by omega)
   rw [hent,cells_agg] at a1
   have K1:Kp h0.size h0 h':=K0.trans ⟨a3,fun k hk=>a4 k (by have:=K0.size;omega) fun e=>by have:=hH.key k e;omega⟩
   have hb1:∀ k,blkOf s' = some k→k < h'.size:=by
    intro k hk
    rcases a5 with e5 | ⟨j,e5,_,e6⟩
    ·rw [e5] at hk;have:=hb k hk;omega
    ·rw [e5] at hk;cases hk;exact e6
   unfold ifcR
   have q0:((mkB (joinL p)).toList == (ByteArray.mk #[47]).toList)=decide (p=[]):=by
    rw [slashB,Lib.toList_data,mkB_data,Bool.eq_iff_iff,beq_iff_eq,decide_eq_true_eq]
    exact joinL_root hval
   -- behind the directory's own entry
   have rest:K18_10 s' (.string (preB p)) (ptr b) h' Q:=by
    refine X18_10_ok ?_
    unfold X18_10
    have t1:=t0.kp K1
    obtain ⟨g1',g2',g3'⟩:=t1.dir hp
    simp (disch:=(first | omega | (simp only [beq_iff_eq,sz_push,sz_put,SC,Nat.reduceAdd,Nat.reduceLeDiff];done) | (simp only [beq_iff_eq,ne_eq,sz_push,sz_put];omega) | assumption | fail)) only [g1',SXB,SX,reduceIte,Int.reduceLT,Int.reduceLE,Int.reduceToNat,Int.reduceBEq,Int.reduceBNe,Nat.reduceAdd,Nat.reduceMul,Nat.reduceSub,Nat.reduceLeDiff]
    refine X31_ok ?_
    unfold X31
    simp (disch:=(first | omega | (simp only [beq_iff_eq,sz_push,sz_put,SC,Nat.reduceAdd,Nat.reduceLeDiff];done) | (simp only [beq_iff_eq,ne_eq,sz_push,sz_put];omega) | assumption | fail)) only [SXB,SX,reduceIte,Int.reduceLT,Int.reduceLE,Int.reduceToNat,Int.reduceBEq,Int.reduceBNe,Nat.reduceAdd,Nat.reduceMul,Nat.reduceSub,Nat.reduceLeDiff]
    have K2:Kp h'.size h' (h'.push (.cells #[.map (some m)] 65 (0,0)) none):=(Kp.refl _ _).push _ _ (Nat.le_refl _)
    have t2:=t1.kp K2
    have gk:(h'.push (.cells #[.map (some m)] 65 (0,0)) none).get h'.size=some (.cells #[.map (some m)] 65 (0,0),none):=get_push_eq rfl
    have zk:(h'.push (.cells #[.map (some m)] 65 (0,0)) none).size=h'.size + 1:=by simp
    have a2':=a2.mono (h':=h'.push (.cells #[.map (some m)] 65 (0,0)) none) fun k hk=>get_push_ne (by have:=hb1 k hk;omega)
    have K1':Kp h0.size h0 (h'.push (.cells #[.map (some m)] 65 (0,0)) none):=K1.trans (K2.less K1.size)
    generalize h'.push (.cells #[.map (some m)] 65 (0,0)) none=h2 at K2 t2 gk zk a2' K1' ⊢
    have hkl:ks.length ≤ 1099511627:=by
     have h1:(ks.map fun x=>(K.filter (within (p++[x.1]))).length).sum ≤ (K.filter (below p)).length:=by
      have:=sum_kids p K (o.knod _ _ _ _ _ _ _ hp)
      rw [List.map_map] at this
      exact this
     have h2:∀ l:List (Nm × Nat),(∀ x ∈ l,1 ≤ (K.filter (within (p++[x.1]))).length)→l.length ≤ (l.map fun x=>(K.filter (within (p++[x.1]))).length).sum:=by
      intro l
      induction l with
      | nil=>intro _;simp
      | cons a l ih =>
       intro hh
       have h3:=ih fun x hx=>hh x (by simp [hx])
       have h4:=hh a (by simp)
       simp only [List.map_cons,List.sum_cons,List.length_cons];omega
     have h3:=h2 ks fun x hx=>by
      have hx2:=(o.kids _ _ _ _ _ _ _ hp x.1).1 (List.mem_map.2 ⟨x,hx,rfl⟩)
      exact List.length_pos_of_mem (List.mem_filter.2 ⟨(o.mem _).1 hx2,within_refl _⟩)
     have h4:=List.length_filter_le (below p) K
     omega
    refine sorted_ok t2 o hp hkl gk (by omega) fun ns hns hnd hnsl=>?_
    have hnl:=sum_kids p K hnd
    -- the names,one by one
    have loop:∀ (d i:Nat) (M:List Pt) (s3:Value) (h3:AH),i + d=ns.length→(∀ x,x ∈ M ↔ (x=p ∨ ∃ nm ∈ ns.take i,within (p++[nm]) x=true)∧(σ x).isSome=true) →
      M.length ≤ 1 + ((ns.take i).map fun nm=>(K.filter (within (p++[nm]))).length).sum→Kp h0.size h0 h3→Hld 44 6 h3 h0.size s3 (L++M.map (entryV σ))→(∀ k,blkOf s3=some k→k < h3.size) →
      H18_11 s3 (.string (preB p)) (ptr b) (slV (strs ns)) (.int .i64 (ns.length:Nat)) (.int .i64 (i:Nat)) h3 Q:=by
     intro d
     induction d with
     | zero =>
      intro i M s3 h3 hi hM hMl K3 hH3 hb3
      refine X18_11_ok ?_
      unfold X18_11
      have e:¬ ((i:Int) < (ns.length:Nat)):=by omega
      have htk:ns.take i=ns:=List.take_of_length_le (by omega)
      rw [htk] at hM hMl
      simp (disch:=(first | omega | (simp only [beq_iff_eq,sz_push,sz_put,SC,Nat.reduceAdd,Nat.reduceLeDiff];done) | (simp only [beq_iff_eq,ne_eq,sz_push,sz_put];omega) | assumption | fail)) only [e,SXB,SX,reduceIte,Int.reduceLT,Int.reduceLE,Int.reduceToNat,Int.reduceBEq,Int.reduceBNe,Nat.reduceAdd,Nat.reduceMul,Nat.reduceSub,Nat.reduceLeDiff]
      refine X18_15_ok ?_
      unfold X18_15
      refine hq M s3 h3 (fun x=>?_) (by omega) K3 hH3 hb3
      rw [hM x]
      refine and_congr_left fun hx=>?_
      constructor
      ·rintro (rfl | ⟨nm,_,h1⟩)
       ·exact within_refl _
       ·exact within_trans (within_app p [nm]) h1
      ·intro h1
       obtain ⟨y,rfl⟩:=Tr.within_iff.1 h1
       cases y with
       | nil=>left;simp
       | cons nm y =>
        right
        refine ⟨nm,?_,Tr.within_iff.2 ⟨y,by simp⟩⟩
        rw [hns,o.kids _ _ _ _ _ _ _ hp nm]
        by_cases hy:y=[]
        ·subst hy;exact hx
        ·obtain ⟨_,_,_,_,_,_,h2⟩:=o.ups y (p++[nm]) hy (by simpa using hx)
         rw [h2];rfl
     | succ d ihd =>
      intro i M s3 h3 hi hM hMl K3 hH3 hb3
      refine X18_11_ok ?_
      unfold X18_11
      have e:(i:Int) < (ns.length:Nat):=by omega
      have e0:(0:Int) ≤ (i:Nat):=by omega
      have ei:(i:Int) + 1=((i + 1:Nat):Int):=by omega
      obtain ⟨nm,hnm⟩:∃ nm,ns[i]?=some nm:=⟨_,List.getElem?_eq_getElem (by omega)⟩
      have er:(strs ns)[i]?=some (.string (mkB nm)):=by unfold strs;rw [List.getElem?_map,hnm];rfl
      have hsl:slV (strs ns)=VSl (strs ns):=by
       cases ns with
       | nil=>simp at hnm
       | cons a l=>rfl
      have hx2:=(o.kids _ _ _ _ _ _ _ hp nm).1 ((hns nm).1 (List.mem_of_getElem? hnm))
      obtain ⟨r2,hr2⟩:=Option.isSome_iff_exists.1 hx2
      have t3:=t0.kp K3
      obtain ⟨g13,g23,g33⟩:=t3.dir hp
      have lk:=look_kid2 t3 o hp hr2
      have hcat:(.string (preB p++mkB nm):Value)=.string (mkB (joinL (p++[nm]))):=by rw [preB_app]
      have hsz:(mkB nm).size ≤ 64:=by
       have h1:=hv (p++[nm]) ((o.mem _).1 hx2)
       have h2:=(List.all_eq_true.1 (by unfold validL at h1;simp only [Bool.and_eq_true] at h1;exact h1.1.1)) nm (by simp)
       unfold partL at h2
       simp only [Bool.and_eq_true,decide_eq_true_eq] at h2
       rw [mkB_size];exact h2.1.1.2
      have hpsz:=preB_size hval
      have hts:((ns.take (i + 1)).map fun nm=>(K.filter (within (p++[nm]))).length).sum=((ns.take i).map fun nm=>(K.filter (within (p++[nm]))).length).sum + (K.filter (within (p++[nm]))).length:=by
       rw [List.take_add_one,hnm,List.map_append,List.sum_append];simp
      have htl:((ns.take (i + 1)).map fun nm=>(K.filter (within (p++[nm]))).length).sum ≤ (ns.map fun nm=>(K.filter (within (p++[nm]))).length).sum:=by
       conv=>rhs;rw [← List.take_append_drop (i + 1) ns,List.map_append,List.sum_append]
       omega
      rw [hsl]
      rw [hsl] at ihd
      simp (disch:=(first | omega | (simp only [beq_iff_eq,sz_push,sz_put,SC,Nat.reduceAdd,Nat.reduceLeDiff];done) | (simp only [beq_iff_eq,ne_eq,sz_push,sz_put];omega) | assumption | fail)) only [e,e0,er,g13,lk,hcat,SXB,SX,reduceIte,Int.reduceLT,Int.reduceLE,Int.reduceToNat,Int.reduceBEq,Int.reduceBNe,Nat.reduceAdd,Nat.reduceMul,Nat.reduceSub,Nat.reduceLeDiff]
      refine ih (p++[nm]) r2 _ s3 h3 (by have:=below_less o hx2;omega) hr2 K3 hH3 (fun v hv2=>?_) hb3 (by simp only [List.length_append,List.length_map];omega) fun M2 s4 h4 m1 m2 m3 m4 m5=>?_
      ·rcases List.mem_append.1 hv2 with h1 | h1
       ·exact hL6 v h1
       ·obtain ⟨x,_,rfl⟩:=List.mem_map.1 h1
        exact entryV_size σ x
      ·simp (disch:=(first | omega | (simp only [beq_iff_eq,sz_push,sz_put,SC,Nat.reduceAdd,Nat.reduceLeDiff];done) | (simp only [beq_iff_eq,ne_eq,sz_push,sz_put];omega) | assumption | fail)) only [SXB,SX,reduceIte,Int.reduceLT,Int.reduceLE,Int.reduceToNat,Int.reduceBEq,Int.reduceBNe,Nat.reduceAdd,Nat.reduceMul,Nat.reduceSub,Nat.reduceLeDiff]
       rw [ei]
       refine ihd (i + 1) (M++M2) s4 h4 (by omega) (fun x=>?_) (by simp only [List.length_append];omega) m3 (by rw [List.map_append,← List.append_assoc];exact m4) m5
       rw [List.mem_append,hM x,m1 x,List.take_add_one,hnm]
       simp only [List.mem_append,Option.toList_some,List.mem_singleton]
       constructor
       ·rintro (⟨h1 | ⟨y,h1,h2⟩,h3⟩ | ⟨h1,h2⟩)
        ·exact ⟨.inl h1,h3⟩
        ·exact ⟨.inr ⟨y,.inl h1,h2⟩,h3⟩
        ·exact ⟨.inr ⟨nm,.inr rfl,h1⟩,h2⟩
       ·rintro ⟨h1 | ⟨y,h1 | rfl,h2⟩,h3⟩
        ·exact .inl ⟨.inl h1,h3⟩
        ·exact .inl ⟨.inr ⟨y,h1,h2⟩,h3⟩
        ·exact .inr ⟨h2,h3⟩
    have hlen2:(strs ns).length=ns.length:=List.length_map ..
    simp (disch:=(first | omega | (simp only [beq_iff_eq,sz_push,sz_put,SC,Nat.reduceAdd,Nat.reduceLeDiff];done) | (simp only [beq_iff_eq,ne_eq,sz_push,sz_put];omega) | assumption | fail)) only [hlen2,SXB,SX,reduceIte,Int.reduceLT,Int.reduceLE,Int.reduceToNat,Int.reduceBEq,Int.reduceBNe,Nat.reduceAdd,Nat.reduceMul,Nat.reduceSub,Nat.reduceLeDiff]
    refine loop ns.length 0 [p] s' h2 (by omega) (fun x=>?_) (by simp) K1' a2' (fun k hk=>by have:=hb1 k hk;omega)
    simp only [List.mem_singleton,List.take_zero,List.not_mem_nil,false_and,exists_false,or_false]
    constructor
    ·rintro rfl;exact ⟨rfl,by rw [hp];rfl⟩
    ·exact (·.1)
   have hps:=path_size hval
   have hsz47:(ByteArray.mk #[47]).size=1:=rfl
   by_cases hp0:p=[]
   ·have e0:decide (p=[])=true:=decide_eq_true hp0
    have e1:preB p=mkB (joinL p):=by unfold preB;rw [if_pos hp0,hp0];rfl
    rw [e1] at rest
    simp (disch:=(first | omega | (simp only [beq_iff_eq,sz_push,sz_put,SC,Nat.reduceAdd,Nat.reduceLeDiff];done) | (simp only [beq_iff_eq,ne_eq,sz_push,sz_put];omega) | assumption | fail)) only [ta_fileN,ta_dir,g1,a1,q0,e0,SXB,SX,reduceIte,Int.reduceLT,Int.reduceLE,Int.reduceToNat,Int.reduceBEq,Int.reduceBNe,Nat.reduceAdd,Nat.reduceMul,Nat.reduceSub,Nat.reduceLeDiff]
    exact rest
   ·have e0:decide (p=[])=false:=decide_eq_false hp0
    have e1:preB p=mkB (joinL p)++⟨#[47]⟩:=by unfold preB;rw [if_neg hp0];rfl
    rw [e1] at rest
    simp (disch:=(first | omega | (simp only [beq_iff_eq,sz_push,sz_put,SC,Nat.reduceAdd,Nat.reduceLeDiff];done) | (simp only [beq_iff_eq,ne_eq,sz_push,sz_put];omega) | assumption | fail)) only [ta_fileN,ta_dir,g1,a1,q0,e0,SXB,SX,reduceIte,Int.reduceLT,Int.reduceLE,Int.reduceToNat,Int.reduceBEq,Int.reduceBNe,Nat.reduceAdd,Nat.reduceMul,Nat.reduceSub,Nat.reduceLeDiff]
    exact rest
end Go.Proofs.YtgdnfoijhdpppaaDoor.L
end
