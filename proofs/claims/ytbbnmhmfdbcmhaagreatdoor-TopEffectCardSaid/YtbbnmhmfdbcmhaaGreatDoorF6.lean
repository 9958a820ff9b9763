/- Definitions and lemmas for the law TopEffect: what the program's functions come to. Conditions: as each lemma says. -/
import Derived.Test.YtbbnmhmfdbcmhaaGreatDoorF3
import Derived.Test.YtbbnmhmfdbcmhaaGreatDoorF2
import Derived.Shelf.Sort.Plain
import Derived.Sort.OwnSortedInts
import Derived.Deep.AppendLies
import Derived.Deep.RegionLaw
import Derived.StillTailTactics
set_option linter.all false
set_option linter.unusedVariables false
set_option linter.unusedSimpArgs false
set_option linter.deprecated false
namespace Go.Proofs.Due
open Go.RowKit Go.Proofs Go.Eng Go.Sort
set_option maxRecDepth 100000
set_option maxHeartbeats 1000000
theorem rj (x:Int):∀l:List Int,(insI x l).Perm (x::l)
 |[]=>P8 _
 |y::r=>by
  unfold insI;cases h:decide (y<x)with
  |true=>exact((rj x r).cons y).trans (List.Perm.swap x y r)
  |false=>exact P8 _
theorem sortI_perm:∀l:List Int,(hZ l).Perm l
 |[]=>P8 _
 |x::r=>(rj x (hZ r)).trans ((sortI_perm r).cons x)
theorem FK (x:Int):∀l:List Int,l.Pairwise (·<=·)->(insI x l).Pairwise (·<=·)
 |[],_=>by simp[insI]
 |y::r,h=>by
  obtain⟨h1,h2⟩:=Qy.1 h;unfold insI;by_cases q:y<x
  ·rw[NK q,NH];refine Qy.2 ⟨λz hz=>?_,FK x r h2⟩;rcases NO.1 ((rj x r).mem_iff.1 hz)with rfl|hz
   ·omega
   ·exact h1 z hz
  ·rw[NF q,NS];refine Qy.2 ⟨λz hz=>?_,h⟩;rcases NO.1 hz with rfl|hz
   ·omega
   ·have:=h1 z hz;omega
theorem Bl:∀l:List Int,(hZ l).Pairwise (·<=·)
 |[]=>List.Pairwise.nil
 |x::r=>FK x _ (Bl r)
theorem vd {l l':List Int}(h:l.Perm l'):hZ l=l'.mergeSort λx y=>decide (x<=y):=by
 have hp:=List.pairwise_mergeSort (le:=λx y:Int=>decide (x<=y)) (λa b c h1 h2=>by simp only[N0]at *;omega) (λa b=>by simp only[Qk,N0];omega) l';refine List.Perm.eq_of_pairwise (le:=λa b=>a<=b) (λa b _ _ h1 h2=>by omega) (Bl l) (hp.imp λh=>by simpa using h) (((sortI_perm l).trans h).trans (List.mergeSort_perm l' _).symm)
def df : Shelf.Ren :=
  { f := fun x => match x with
      | 189 => 161 | 125 => 167 | 257 => 166 | 128 => 179 | 129 => 180 | 294 => 170 | 295 => 171 | 296 => 172 | 297 => 173 | 298 => 174 | 299 => 175 | 216 => 176 | 300 => 177 | 301 => 178 | 328 => 185 | 329 => 186 | 330 => 187 | 331 => 188 | 332 => 189 | 215 => 190 | 343 => 191
      | n => n
    t := fun x => match x with
      | 28 => 72 | 46 => 187 | 51 => 185 | 53 => 237 | 183 => 293 | 182 => 292 | 131 => 297 | 218 => 301 | 222 => 305 | 228 => 307 | 229 => 308
      | n => n
    g := fun n => n }
open Go.Shelf in
theorem KV : Lays.n189 Tryz.prog df :=
{ mixed := Eq.refl true, f125 := Pe Tryz.func167 (congrArg some (Eq.refl (Body.n125 df))),
  f128 := Pe Tryz.func179 (congrArg some (Eq.refl (Body.n128 df))),
  f129 := Pe Tryz.func180 (congrArg some (Eq.refl (Body.n129 df))),
  f189 := Pe Tryz.func161 (congrArg some (Eq.refl (Body.n189 df))),
  f215 := Pe Tryz.func190 (congrArg some (Eq.refl (Body.n215 df))),
  f216 := Pe Tryz.func176 (congrArg some (Eq.refl (Body.n216 df))),
  f257 := Pe Tryz.func166 (congrArg some (Eq.refl (Body.n257 df))),
  f294 := Pe Tryz.func170 (congrArg some (Eq.refl (Body.n294 df))),
  f295 := Pe Tryz.func171 (congrArg some (Eq.refl (Body.n295 df))),
  f296 := Pe Tryz.func172 (congrArg some (Eq.refl (Body.n296 df))),
  f297 := Pe Tryz.func173 (congrArg some (Eq.refl (Body.n297 df))),
  f298 := Pe Tryz.func174 (congrArg some (Eq.refl (Body.n298 df))),
  f299 := Pe Tryz.func175 (congrArg some (Eq.refl (Body.n299 df))),
  f300 := Pe Tryz.func177 (congrArg some (Eq.refl (Body.n300 df))),
  f301 := Pe Tryz.func178 (congrArg some (Eq.refl (Body.n301 df))),
  f328 := Pe Tryz.func185 (congrArg some (Eq.refl (Body.n328 df))),
  f329 := Pe Tryz.func186 (congrArg some (Eq.refl (Body.n329 df))),
  f330 := Pe Tryz.func187 (congrArg some (Eq.refl (Body.n330 df))),
  f331 := Pe Tryz.func188 (congrArg some (Eq.refl (Body.n331 df))),
  f332 := Pe Tryz.func189 (congrArg some (Eq.refl (Body.n332 df))),
  f343 := Pe Tryz.func191 (congrArg some (Eq.refl (Body.n343 df))), t0 := Tryz.underlying0,
  a0 := Tryz.isAgg0, z0 := Tryz.sizeOf0, v0 := Tryz.zeroValue0, t3 := Tryz.underlying3, a3 := Tryz.isAgg3,
  z3 := Tryz.sizeOf3, v3 := Tryz.zeroValue3, t4 := Tryz.underlying4, a4 := Tryz.isAgg4, z4 := Tryz.sizeOf4,
  v4 := Tryz.zeroValue4, t5 := Tryz.underlying5, a5 := Tryz.isAgg5, z5 := Tryz.sizeOf5, v5 := Tryz.zeroValue5,
  t9 := Tryz.underlying9, a9 := Tryz.isAgg9, z9 := Tryz.sizeOf9, v9 := Tryz.zeroValue9, t28 := Tryz.underlying72,
  a28 := Tryz.isAgg72, z28 := Tryz.sizeOf72, v28 := Tryz.zeroValue72, t46 := Tryz.underlying187, a46 := Tryz.isAgg187,
  z46 := Tryz.sizeOf187, v46 := Tryz.zeroValue187, t51 := Tryz.underlying185, a51 := Tryz.isAgg185,
  z51 := Tryz.sizeOf185, v51 := Tryz.zeroValue185, t53 := Tryz.underlying237, a53 := Tryz.isAgg237,
  z53 := Tryz.sizeOf237, v53 := Tryz.zeroValue237, t131 := Tryz.underlying297, a131 := Tryz.isAgg297,
  z131 := Tryz.sizeOf297, v131 := Tryz.zeroValue297, t182 := Tryz.underlying292, a182 := Tryz.isAgg292,
  z182 := Tryz.sizeOf292, v182 := Tryz.zeroValue292, t183 := Tryz.underlying293, a183 := Tryz.isAgg293,
  z183 := Tryz.sizeOf293, v183 := Tryz.zeroValue293, t218 := Tryz.underlying301, a218 := Tryz.isAgg301,
  z218 := Tryz.sizeOf301, v218 := Tryz.zeroValue301, t222 := Tryz.underlying305, a222 := Tryz.isAgg305,
  z222 := Tryz.sizeOf305, v222 := Tryz.zeroValue305, t228 := Tryz.underlying307, a228 := Tryz.isAgg307,
  z228 := Tryz.sizeOf307, v228 := Tryz.zeroValue307, t229 := Tryz.underlying308, a229 := Tryz.isAgg308,
  z229 := Tryz.sizeOf308, v229 := Tryz.zeroValue308 }
theorem HB (B:Nat)(zs:List Int)(w:World)(v:Value)(hz:zs.length<1000)(ho:w.ownsRow B 3 1 v zs.length (zs.map (.int .i64))):
  Calls Tryz.prog 161 #[v] w λe w'=>e=.returned (.tuple #[])/\w'.ownsRow B 3 1 v (hZ zs).length ((hZ zs).map (.int .i64))/\w.grownBy w' v.ownBlock:=by
 rcases ho.2 with⟨rfl,h0⟩|⟨g,cap,cur,rfl,h1,h2,h3,h4,h5,h6⟩
 ·have:zs=[]:=OR.1 h0;subst this;exact(Ez w).mono λe w' ⟨q1,q2⟩=>by
   subst q2;exact⟨q1,ho,by constructor<;>simp⟩
 ·have hH:=holds_of_blockI (ss:=zs) h2 (by rw[Rk]at h6;exact h6);refine(Any.slices_Sort_int KV g 0 cap zs w hH (by exact(OX.1 h2).1) (by omega)).mono ?_;rintro e w' ⟨q1,n,os,rfl⟩;have hs:=vd (P8 zs);have hl:(hZ zs).length=zs.length:=(sortI_perm zs).length_eq;rw[<- hs];have:=ownsRow_sortedI (n:=n) (os:=os) hl h1 h2 h3 h4 h5;refine⟨q1,?_,grownBy_sortedI _⟩;rw[hl];exact this
theorem Im (B:Nat)(zs:List Int)(w:World)(v:Value)(hz:zs.length<1000)(ho:w.ownsRow B 3 1 v zs.length (zs.map (.int .i64))):
  Calls Tryz.prog 144 #[v] w λe w'=>e=.returned (.tuple #[])/\w'.ownsRow B 3 1 v (hZ zs).length ((hZ zs).map (.int .i64))/\w.grownBy w' v.ownBlock:=by
 have hs:=HB B zs w v hz ho;clear ho
 go_enter Tryz.func144,Tryz.ntmps144
 go_wp2_with (go_at_call 161;refine hs.mono ?_;rintro e w2 ⟨rfl,h1,h2⟩)
 go_end0
 exact⟨rfl,h1,h2⟩
theorem yt (seen:Array Nat)(e:MapEntry)(hs:seen.contains e.born=false):∀(es:List MapEntry),(es.map (·.born)).Nodup->e∈es->(es.filter λx=>(seen.push e.born).contains x.born).Perm (e::es.filter λx=>seen.contains x.born)
 |x::l,hn,he=>by
  have hn':x.born ∉ l.map (·.born)/\(l.map (·.born)).Nodup:=Pn.1 hn;have other:∀(l:List MapEntry) (b:Nat),b ∉ l.map (·.born)->(l.filter λx=>(seen.push b).contains x.born)=l.filter λx=>seen.contains x.born:=λl b hb=>QJ λy hy=>by
   have:(y.born==b)=false:=by
    cases hc:y.born==b with
    |false=>rfl
    |true=>exact absurd (by rw[<- P6.1 hc];exact N9.2 ⟨y,hy,rfl⟩) hb
   rw[contains_push,this,O9]
  rcases NO.1 he with rfl|h
  ·rw[O4,O4,NI (by simp[contains_push]),ND (by rw[hs];exact Bool.false_ne_true),other l _ hn'.1]
  ·have hx:(x.born==e.born)=false:=by
    cases hc:x.born==e.born with
    |false=>rfl
    |true=>exact absurd (by rw[P6.1 hc];exact N9.2 ⟨e,h,rfl⟩) hn'.1
   have ih:=yt seen e hs l hn'.2 h;rw[O4,O4];cases hc:seen.contains x.born with
   |true=>
    rw[NI (by rw[contains_push,hc];rfl),NI rfl];exact(ih.cons x).trans (List.Perm.swap e x _)
   |false=>
    rw[ND (by simp only[contains_push,hc,hx];simp),ND (by simp)];exact ih
theorem inf4:∃i:TypeInfo,Tryz.prog.info? 3=some i/\i.zero=some (.int .i64 0)/\i.size=1/\i.bytes=8:=by
 have h:(Tryz.prog.info? 3).map (λi=>(i.zero,i.size,i.bytes))=some (some (.int .i64 0),1,8):=by kernel_rfl
 obtain⟨i,h1,h2⟩:=Qb.1 h;simp only[Ov]at h2;exact⟨i,h1,h2⟩
theorem H5 {w w':World}{B:Nat}{e:TypeId}{s n:Nat}{v:Value}{xs:List Value}(h:w.ownsRow B e s v n xs)(hb:∀g,v.ownBlock=some g->w'.heap[g]?=w.heap[g]?):w'.ownsRow B e s v n xs:=by
 refine⟨h.1,?_⟩;rcases h.2 with h2|⟨g,cap,cur,rfl,q1,q2,q3⟩
 ·exact .inl h2
 ·exact .inr ⟨g,cap,cur,rfl,q1,(hb g rfl).trans q2,q3⟩
theorem Fk (bd bm : Nat) (es : Array MapEntry) (clock : Nat) (w : World) (ks : MapEntry → Int) (hd : w.cell? ⟨bd, 0, none⟩ = some (.map (some bm))) (hb : w.heap[bm]? = some (.map es clock)) (hst : MapKept.Stamped es clock)
    (hv : ∀ x ∈ es.toList, x.key = .int .i64 (ks x)) (hn : es.size ≤ 3) :
    Calls Tryz.prog 112 #[.pointer (some ⟨bd, 0, none⟩)] w fun e w' => ∃ v, e = .returned v ∧ Below w.heap.size w w' ∧ w'.ownsRow w.heap.size 3 1 v (hZ (es.toList.map ks)).length ((hZ (es.toList.map ks)).map (.int .i64)) := by
  have hrg := run_range_map (P := Tryz.prog) w 156 3 219 bm es clock Tryz.underlying156 hb
  have hL := Ii ⟨bd, 0, none⟩ _ w hd
  obtain ⟨i, i1, i2, i3, i4⟩ := inf4
  go_enter Tryz.func112, Tryz.ntmps112
  go_wp2
  obtain ⟨r, hr⟩ : ∃ r, w.heap.size = r := ⟨_, rfl⟩
  have hst0 : (w.alloc (.mapIter (some bm) clock #[] clock)).heap[r]? = some (.mapIter (some bm) clock #[] clock) := by rw [← hr]; exact heap_alloc_new w _
  have hb0 : Below w.heap.size w (w.alloc (.mapIter (some bm) clock #[] clock)) := (Below.refl _ _).alloc (NG _) _
  generalize w.alloc (.mapIter (some bm) clock #[] clock) = wa at hst0 hb0 ⊢
  rw [hr]
  clear hrg hL hd
  have hbr : bm < r := by
    rw [← hr]
    rcases Oy bm w.heap.size with q | q
    · exact q
    · rw [Ow q] at hb; cases hb
  go_loopw [3] (fun s w' => ∃ (seen : Array Nat) (c0 : Nat) (zs : List Int), w'.heap[r]? = some (.mapIter (some bm) clock seen c0) ∧ clock ≤ c0 ∧ Below w.heap.size w w' ∧ w'.ownsRow r 3 1 s zs.length (zs.map (.int .i64)) ∧ zs.Perm ((es.toList.filter fun x => seen.contains x.born).map ks)) (fun _ w' => (leftOf es (w'.iterSeen r)).size)
  case atStart => exact ⟨#[], clock, [], hst0, NG _, hb0, ⟨rfl, .inl ⟨rfl, rfl⟩⟩, by simp⟩
  case round =>
    obtain ⟨seen, c0, zs, hri, hc0, hbw, hown, hperm⟩ := hrel
    have hb1 : wr.heap[bm]? = some (.map es clock) := by rw [hbw.block bm (by omega)]; exact hb
    rcases run_next_at (P := Tryz.prog) wr 0 r bm clock c0 seen es clock hri hb1 hst.1 hc0 with ⟨h0, hrun⟩ | ⟨e, he, w1, hal, hrun⟩
    · have hnx : ∀ ty, (Instr.next (.pointer (some ⟨r, 0, none⟩)) false ty).run Tryz.prog wr = _ := fun _ => hrun
      have hall : (es.toList.filter fun x => seen.contains x.born) = es.toList := Qs.2 fun x hx => all_seen es seen h0 x hx
      rw [hall] at hperm
      have hzl : zs.length = es.size := by have := hperm.length_eq; simpa using this
      have hso := Im r zs wr u3 (by omega) hown
      have heq : hZ zs = hZ (es.toList.map ks) := (vd hperm).trans (vd (P8 _)).symm
      rw [heq] at hso
      have hlt3 : ∀ k, u3.ownBlock = some k → r ≤ k := fun k hk => (hown.lt k hk).1
      clear hall heq hperm hown
      go_wp2_with (go_at_call 144; refine hso.mono ?_; rintro e w2 ⟨rfl, h1, h2⟩)
      go_ret
      exact ⟨_, rfl, hbw.grown h2 hbw.size (fun k hk => by rw [hr]; exact hlt3 k hk), by rw [hr]; exact h1⟩
    · obtain ⟨hmem, hnot⟩ := mem_left he
      have hval := hv e hmem
      rw [hval] at hrun
      have hb1' : Below w.heap.size w w1 ∧ w1.heap = wr.heap := by
        rcases hal with rfl | rfl
        · exact ⟨hbw, rfl⟩
        · exact ⟨hbw.drew, rfl⟩
      have hrl : r < w1.heap.size := by
        rw [hb1'.2]
        rcases Oy r wr.heap.size with q | q
        · exact q
        · rw [Ow q] at hri; cases hri
      obtain ⟨w2, hw2⟩ : ∃ w2, Go.ChangeMaps.setBlock w1 r (.mapIter (some bm) clock (seen.push e.born) clock) = w2 := ⟨_, rfl⟩
      have hw2r : w2.heap[r]? = some (.mapIter (some bm) clock (seen.push e.born) clock) := by
        rw [← hw2]; simp [Go.ChangeMaps.setBlock, hrl]
      have hw2o : ∀ k, k ≠ r → w2.heap[k]? = w1.heap[k]? := fun k hk => by
        rw [← hw2]; simp [Go.ChangeMaps.setBlock, O1, Ne.symm hk]
      have hb2 : Below w.heap.size w w2 := by
        refine hb1'.1.trans ⟨by rw [← hw2]; rfl, by rw [← hw2]; rfl, by rw [← hw2]; rfl, by rw [← hw2]; simp [Go.ChangeMaps.setBlock], fun k hk => hw2o k (by omega)⟩
      rw [hw2] at hrun
      have hnx : ∀ ty, (Instr.next (.pointer (some ⟨r, 0, none⟩)) false ty).run Tryz.prog wr = _ := fun _ => hrun
      have hb3 : w2.heap[bm]? = some (.map es clock) := by rw [hb2.block bm (by omega)]; exact hb
      have hen := run_entry_at (P := Tryz.prog) w2 r bm clock seen es clock e hw2r hb3 hmem hst.2.1
      rw [hval] at hen
      have hmeas : (leftOf es (w2.iterSeen r)).size < (leftOf es (wr.iterSeen r)).size := by
        rw [show w2.iterSeen r = seen.push e.born by unfold World.iterSeen; rw [hw2r], show wr.iterSeen r = seen by unfold World.iterSeen; rw [hri]]
        exact left_shrinks es seen e he
      obtain ⟨k0, hk0⟩ : ∃ k0, ks e = k0 := ⟨_, rfl⟩
      rw [hk0] at hen hval
      have hzl : zs.length ≤ es.size := by
        have h1 := hperm.length_eq
        rw [OC] at h1
        have h2 := List.length_filter_le (fun x => seen.contains x.born) es.toList
        have h3 : es.toList.length = es.size := O7
        rw [h1]
        exact Oa h2 (Nat.le_of_eq h3)
      have hg2 : ∀ g, u3.ownBlock = some g → w2.heap[g]? = wr.heap[g]? := fun g hg => by
        rw [hw2o g (fun e => by
          subst e
          rcases hown.2 with ⟨rfl, _⟩ | ⟨g', cap, cur, rfl, q1, q2, _⟩
          · cases hg
          · simp only [Value.ownBlock, Nz] at hg
            subst hg
            rw [q2] at hri; cases hri), hb1'.2]
      have hsz12 : wr.heap.size ≤ w2.heap.size := by rw [← hb1'.2, ← hw2]; simp [Go.ChangeMaps.setBlock]
      have hsz2 : r ≤ w2.heap.size := by have := hb2.size; omega
      have hnr : ∀ g, u3.ownBlock = some g → g ≠ r := fun g hg e => by
        subst e
        rcases hown.2 with ⟨rfl, _⟩ | ⟨g', cap, cur, rfl, q1, q2, _⟩
        · cases hg
        · simp only [Value.ownBlock, Nz] at hg
          subst hg
          rw [q2] at hri; cases hri
      have hrow2 : (w2.alloc (Obj.cells #[.int .i64 k0] 3)).ownsRow r 3 1 u3 zs.length (zs.map (.int .i64)) :=
        H5 hown fun g hg => (Below.heap_alloc _ _ g (N1 (hown.lt g hg).2 hsz12)).trans (hg2 g hg)
      have hrle : r ≤ (w2.alloc (Obj.cells #[.int .i64 k0] 3)).heap.size := by
        have : (w2.alloc (Obj.cells #[.int .i64 k0] 3)).heap.size = w2.heap.size + 1 := PQ _
        omega
      have hr2 : r < w2.heap.size := by have : w1.heap.size = wr.heap.size := by rw [hb1'.2]
                                        omega
      have hz1 : zs.length + 1 ≤ maxLen := by simp only [maxLen]; omega
      have hz2 : (zs.length + 1) * 8 ≤ 140737488355328 := by omega
      clear hrun hw2 hal
      go_wp2_with (at_builtin; go_loud (refine wpList_append_lies (w2.alloc (Obj.cells #[.int .i64 k0] 3)) rfl (.tmp 14) (.tmp 16) 72 rfl r 3 i _ 1 8 Tryz.underlying72 i1 i2 i3 i4 rfl (by omega) u3 zs.length (zs.map (.int .i64)) (by rfl) hrow2 ⟨w2.heap.size, 0, none⟩ 1 1 [.int .i64 k0] (by rfl) rfl (World.news_of_block (heap_alloc_new w2 _)) (by simp [Value.oneCell']) (by omega) hz1 hz2 hrle _ rfl ?_); intro g5 cap5 w5 hown5 hgrow5 hat5 hlt5)
      have hA : (w2.alloc (Obj.cells #[.int .i64 k0] 3)).heap.size = w2.heap.size + 1 := PQ _
      have hr5 : w5.heap[r]? = some (.mapIter (some bm) clock (seen.push e.born) clock) := by
        rw [hgrow5.block r (by omega) (fun e => hnr r e.symm rfl), Below.heap_alloc _ _ _ (by omega)]; exact hw2r
      have hs5 : w5.iterSeen r = w2.iterSeen r := by unfold World.iterSeen; rw [hr5, hw2r]
      go_roundw
      case rel =>
        refine ⟨seen.push e.born, clock, zs ++ [k0], hr5, NG _, ((hb2.alloc (by rw [hr]; exact hsz2) _)).grown hgrow5 (by omega) fun k hk => by rw [hr]; exact (hown.lt k hk).1, by simpa using hown5, ?_⟩
        refine (List.perm_append_comm.trans ?_)
        refine List.Perm.trans ?_ ((yt seen e hnot es.toList hst.2.1 hmem).map ks).symm
        rw [NV, hk0]
        exact hperm.cons k0
      case measure => rw [hs5]; exact hmeas
end Go.Proofs.Due
namespace Go.Proofs.Due
open Go.RowKit Go.Proofs Go.Eng
set_option maxRecDepth 100000
set_option maxHeartbeats 1000000
theorem keptN_eq (keep:Int)(n s:Nat)(hs:s<=n)(hn:n<=1099511627776):∃k:Nat,ma keep n s=k/\s<=k/\k<=n /\
  (let m:=Int.tmod keep ((n-s:Nat)+1:Int);(m<0->(k:Int)=s+(m+((n-s:Nat)+1)))/\(¬ m<0->(k:Int)=s+m)/\-1099511627780<m/\m<1099511627780):=by
 have h1:(-(((n-s:Nat)+1:Int))<Int.tmod keep ((n-s:Nat)+1:Int))/\Int.tmod keep ((n-s:Nat)+1:Int)<((n-s:Nat)+1:Int):=by
  have h:=Re keep (show(0:Int)<((n-s:Nat)+1:Int) by omega);have h':Int.tmod (-keep) ((n-s:Nat)+1:Int)<((n-s:Nat)+1:Int):=Re _ (by omega);rw[Int.neg_tmod]at h';exact⟨by omega,h⟩
 unfold ma;rw[show w64 ((n:Int)-(s:Int))=((n-s:Nat):Int) by rw[bP (by omega) (by omega)];omega,bP (show -9223372036854775808<=((n-s:Nat):Int)+1 by omega) (by omega)];obtain⟨m,hm⟩:∃m,Int.tmod keep ((n-s:Nat)+1:Int)=m:=⟨_,rfl⟩
 rw[hm]at h1 ⊢;by_cases h0:m<0
 ·refine⟨(s+(m+((n-s:Nat)+1))).toNat,?_,by omega,by omega,λ_=>by omega,λh=>(h h0).elim,by omega,by omega⟩;simp only[NK h0,NH];rw[show w64 (m+(((n-s:Nat):Int)+1))=m+(((n-s:Nat):Int)+1) from bP (by omega) (by omega),bP (by omega) (by omega)];omega
 ·refine⟨(s+m).toNat,?_,by omega,by omega,λh=>(h0 h).elim,λ_=>by omega,by omega,by omega⟩;simp only[NF h0,NS];rw[show w64 m=m from bP (by omega) (by omega),bP (by omega) (by omega)];omega
structure EnA (w:World)(x:MapEntry)(b:Nat)(arr:Array Value)(T:TypeId)(fz:Nat×Nat)(a:Option Addr)(n cap s:Nat):Prop where
 val:x.val=.pointer (some ⟨b,0,none⟩)
 blk:w.heap[b]?=some (.cells arr T fz)
 fz:FzOk arr.size fz
 c0:arr[0]?=some (.slice a n cap)
 c1:arr[1]?=some (.int .i64 s)
 sn:s<=n
 nc:n<=cap
 nm:n<=1099511627776
 an:a=none->cap=0
theorem CX:∀(l:List MapEntry),(l.map (·.born)).Nodup->∀{x y:MapEntry},x∈l->y∈l->x.born=y.born->x=y
 |z::l,hn,x,y,hx,hy,e=>by
  obtain⟨h1,h2⟩:=Pn.1 hn;rcases NO.1 hx with hx|hx
  ·rcases NO.1 hy with hy|hy
   ·rw[hx,hy]
   ·exact(h1 (N9.2 ⟨y,hy,by rw[<- e,hx]⟩)).elim
  ·rcases NO.1 hy with hy|hy
   ·exact(h1 (N9.2 ⟨x,hx,by rw[e,hy]⟩)).elim
   ·exact CX l h2 hx hy e
theorem fq (w:World)(g i:Nat)(cs:Array Value)(t:TypeId)(fz:Nat×Nat)(v:Value)(hg:w.heap[g]?=some (.cells cs t fz)):(w.setCell ⟨g,i,none⟩ v).heap[g]?=some (.cells (cs.setIfInBounds i v) t fz):=by
 rw[setCell_eq_setRow w g i cs t fz v hg];exact setRow_heap w g cs _ t _ hg
theorem fi (w:World)(g j:Nat)(cs:Array Value)(t:TypeId)(fz:Nat×Nat)(hg:w.heap[g]?=some (.cells cs t fz))(hf:FzOk cs.size fz)(hj:j<cs.size):w.frozen? ⟨g,j,none⟩=false:=by
 have:=hf.1 j hj;simp only[World.frozen?,hg];simpa using this
def uN (arr:Array Value)(T:TypeId)(fz:Nat×Nat)(a:Option Addr)(cap k:Nat):Go.Obj:=.cells ((arr.setIfInBounds 0 (.slice a k cap)).setIfInBounds 1 (.int .i64 k)) T fz
theorem Ko (bd bm:Nat)(es:Array MapEntry)(clock:Nat)(w:World)(keep:Int)(darr:Array Value)(dT:TypeId)(dfz:Nat×Nat)(hd:w.heap[bd]?=some (.cells darr dT dfz))(hdf:FzOk darr.size dfz)(hd0:darr[0]?=some (.map (some bm)))(hds:4<=darr.size)
  (hb:w.heap[bm]?=some (.map es clock)) (hst:MapKept.Stamped es clock)
  (bf:MapEntry->Nat) (arr:MapEntry->Array Value) (T:MapEntry->TypeId) (fz:MapEntry->Nat×Nat) (a:MapEntry->Option Addr) (n cap s k:MapEntry->Nat)
  (hv:∀x∈es.toList,EnA w x (bf x) (arr x) (T x) (fz x) (a x) (n x) (cap x) (s x)/\ma keep (n x) (s x)=k x) (hne:∀x∈es.toList,bf x≠bd) (hinj:∀x∈es.toList,∀y∈es.toList,bf x=bf y->x.born=y.born):
  Calls Tryz.prog 82 #[.pointer (some ⟨bd,0,none⟩),.int .i64 keep] w λe w'=>e=.returned (.tuple #[])/\(w'.os=w.os/\w'.tape=w.tape/\w'.output=w.output/\w.heap.size<=w'.heap.size) /\
   (∀x∈es.toList,w'.heap[bf x]?=some (uN (arr x) (T x) (fz x) (a x) (cap x) (k x))) /\
   w'.heap[bd]?=some (.cells ((darr.setIfInBounds 3 (.bool false)).setIfInBounds 2 (.int .i64 (-1))) dT dfz) /\
   ∀b,b<w.heap.size->b≠bd->(∀x∈es.toList,b≠bf x)->w'.heap[b]?=w.heap[b]?:=by
 have hrg:=run_range_map (P:=Tryz.prog) w 156 3 219 bm es clock Tryz.underlying156 hb;have hdc:w.cell? ⟨bd,0,none⟩=some (.map (some bm)):=by rw[cell_of_row w bd 0 darr dT dfz hd];exact hd0
 have hL:=Ii ⟨bd,0,none⟩ _ w hdc
 go_enter Tryz.func82,Tryz.ntmps82
 go_wp2
 obtain⟨r,hr⟩:∃r,w.heap.size=r:=⟨_,rfl⟩
 have hst0:(w.alloc (.mapIter (some bm) clock #[] clock)).heap[r]?=some (.mapIter (some bm) clock #[] clock):=by rw[<- hr];exact heap_alloc_new w _
 have hb0:Below w.heap.size w (w.alloc (.mapIter (some bm) clock #[] clock)):=(Below.refl _ _).alloc (NG _) _;generalize w.alloc (.mapIter (some bm) clock #[] clock)=wa at hst0 hb0 ⊢;rw[hr];clear hrg hL;have hlt:∀{b:Nat} {o:Go.Obj},w.heap[b]?=some o->b<r:=λ{b o} h=>by
  rw[<- hr];rcases Oy b w.heap.size with q|q
  ·exact q
  ·rw[Ow q]at h;cases h
 have hbr:=hlt hb;have hdr:=hlt hd
 go_loopw [5,6,7] (λx5 x6 x7 w'=>∃(seen:Array Nat) (c0:Nat),w'.heap[r]?=some (.mapIter (some bm) clock seen c0)/\clock<=c0/\(w'.os=w.os/\w'.tape=w.tape/\w'.output=w.output/\w.heap.size<=w'.heap.size) /\
  (∀b,b<r->(∀x∈es.toList,seen.contains x.born=true->b≠bf x)->w'.heap[b]?=w.heap[b]?)/\(∀x∈es.toList,seen.contains x.born=true->w'.heap[bf x]?=some (uN (arr x) (T x) (fz x) (a x) (cap x) (k x)))) (λ_ _ _ w'=>(leftOf es (w'.iterSeen r)).size)
 case atStart=>exact⟨#[],clock,hst0,NG _,⟨hb0.os,hb0.tape,hb0.output,hb0.size⟩,λb hb' _=>hb0.block b (by omega),λx _ h=>by simp at h⟩
 case round=>
  obtain⟨seen,c0,hri,hc0,hfr,hun,hse⟩:=hrel;have hbm:∀x∈es.toList,bm≠bf x:=λx hx e=>by
   have:=(hv x hx).1.blk;rw[<- e,hb]at this;cases this
  have hb1:wr.heap[bm]?=some (.map es clock):=by rw[hun bm hbr λx hx _=>hbm x hx];exact hb
  rcases run_next_at (P:=Tryz.prog) wr 0 r bm clock c0 seen es clock hri hb1 hst.1 hc0 with⟨h0,hrun⟩|⟨e,he,w1,hal,hrun⟩
  ·have hnx:∀ty,(Instr.next (.pointer (some ⟨r,0,none⟩)) false ty).run Tryz.prog wr=_:=λ_=>hrun
   have hd1:wr.heap[bd]?=some (.cells darr dT dfz):=by rw[hun bd hdr λx hx _=>Ne.symm (hne x hx)];exact hd
   have f2:=fi wr bd 2 _ _ _ hd1 hdf (by omega);have f3:=fi wr bd 3 _ _ _ hd1 hdf (by omega);have c2:∃v,wr.cell? ⟨bd,2,none⟩=some v:=⟨_,by rw[cell_of_row wr bd 2 _ _ _ hd1];exact OB (by omega)⟩
   have c3:∃v,wr.cell? ⟨bd,3,none⟩=some v:=⟨_,by rw[cell_of_row wr bd 3 _ _ _ hd1];exact OB (by omega)⟩
   obtain⟨v2,c2⟩:=c2;obtain⟨v3,c3⟩:=c3
   go_wp2
   go_end0
   refine⟨rfl,⟨hfr.1,hfr.2.1,hfr.2.2.1,by simpa[World.setCell]using hfr.2.2.2⟩,λx hx=>?_,fq _ _ _ _ _ _ _ (fq _ _ _ _ _ _ _ hd1),λb h1 h2 h3=>?_⟩
   ·rw[heap_setCell_other _ _ _ _ (hne x hx),heap_setCell_other _ _ _ _ (hne x hx)];exact hse x hx (all_seen es seen h0 x hx)
   ·rw[heap_setCell_other _ _ _ _ h2,heap_setCell_other _ _ _ _ h2];exact hun b (by omega) λx hx _=>h3 x hx
  ·obtain⟨hmem,hnot⟩:=mem_left he;obtain⟨hE,hk⟩:=hv e hmem;rw[hE.val]at hrun;have hb1':(w1.os=w.os/\w1.tape=w.tape/\w1.output=w.output/\w.heap.size<=w1.heap.size)/\w1.heap=wr.heap:=by
    rcases hal with rfl|rfl
    ·exact⟨hfr,rfl⟩
    ·exact⟨hfr,rfl⟩
   have hrl:r<w1.heap.size:=by
    rw[hb1'.2];rcases Oy r wr.heap.size with q|q
    ·exact q
    ·rw[Ow q]at hri;cases hri
   obtain⟨w2,hw2⟩:∃w2,Go.ChangeMaps.setBlock w1 r (.mapIter (some bm) clock (seen.push e.born) clock)=w2:=⟨_,rfl⟩
   have hw2r:w2.heap[r]?=some (.mapIter (some bm) clock (seen.push e.born) clock):=by
    rw[<- hw2];simp[Go.ChangeMaps.setBlock,hrl]
   have hw2o:∀k,k≠r->w2.heap[k]?=wr.heap[k]?:=λk hk=>by
    rw[<- hb1'.2,<- hw2];simp[Go.ChangeMaps.setBlock,O1,Ne.symm hk]
   have hb2:w2.os=w.os/\w2.tape=w.tape/\w2.output=w.output/\w.heap.size<=w2.heap.size:=by
    refine⟨by rw[<- hw2];exact hb1'.1.1,by rw[<- hw2];exact hb1'.1.2.1,by rw[<- hw2];exact hb1'.1.2.2.1,by rw[<- hw2];simpa[Go.ChangeMaps.setBlock]using hb1'.1.2.2.2⟩
   rw[hw2]at hrun;have hnx:∀ty,(Instr.next (.pointer (some ⟨r,0,none⟩)) false ty).run Tryz.prog wr=_:=λ_=>hrun
   have hb3:w2.heap[bm]?=some (.map es clock):=by rw[hw2o bm (by omega)];exact hb1
   have hen:=run_entry_at (P:=Tryz.prog) w2 r bm clock seen es clock e hw2r hb3 hmem hst.2.1;rw[hE.val]at hen;have hmeas:(leftOf es (w2.iterSeen r)).size<(leftOf es (wr.iterSeen r)).size:=by
    rw[show w2.iterSeen r=seen.push e.born by unfold World.iterSeen;rw[hw2r],show wr.iterSeen r=seen by unfold World.iterSeen;rw[hri]];exact left_shrinks es seen e he
   have hbe:=hlt hE.blk;have hf2:w2.heap[bf e]?=some (.cells (arr e) (T e) (fz e)):=by
    rw[hw2o _ (by omega),hun _ hbe λx hx hs e1=>by rw[<- hinj e hmem x hx e1,hnot]at hs;cases hs];exact hE.blk
   obtain⟨c0',c1',f0',f1'⟩:w2.cell? ⟨bf e,0,none⟩=some (.slice (a e) (n e) (cap e))/\w2.cell? ⟨bf e,1,none⟩=some (.int .i64 (s e))/\w2.frozen? ⟨bf e,0,none⟩=false/\w2.frozen? ⟨bf e,1,none⟩=false:=by
    have hs2:2<=(arr e).size:=by have:=(OX.1 hE.c1).1;omega
    exact⟨by rw[cell_of_row w2 _ 0 _ _ _ hf2];exact hE.c0,by rw[cell_of_row w2 _ 1 _ _ _ hf2];exact hE.c1,fi w2 _ 0 _ _ _ hf2 hE.fz (by omega),fi w2 _ 1 _ _ _ hf2 hE.fz (by omega)⟩
   obtain⟨k1,hk1,hk2,hk3,hk4,hk5,hk6⟩:=keptN_eq keep (n e) (s e) hE.sn hE.nm;have hkk:k1=k e:=by rw[hk1]at hk;omega
   subst hkk;have hL2:=λv w' h=>lv22 ⟨bf e,0,none⟩ v w' h
   have ww1:IntKind.i64.wrap ((n e:Int)-(s e:Int))=((n e-s e:Nat):Int):=by show w64 _=_;have:=hE.sn;have:=hE.nm;rw[bP (by omega) (by omega)];omega
   have ww2:IntKind.i64.wrap (((n e-s e:Nat):Int)+1)=((n e-s e:Nat):Int)+1:=by show w64 _=_;have:=hE.nm;exact bP (by omega) (by omega)
   have hnz:((((n e-s e:Nat):Int)+1)==0)=false:=by simp;omega
   have hnc:=hE.nc;have han:=hE.an;have hnm:=hE.nm;have hsn:=hE.sn;clear hrun hw2 hal hk1 hk;have ww3:IntKind.i64.wrap ((s e:Int)+((k e-s e:Nat):Int))=(k e:Int):=by show w64 _=_;rw[bP (by omega) (by omega)];omega
   have hs2:2<=(arr e).size:=by have:=(OX.1 hE.c1).1;omega
   have hfz:=hE.fz;have hrw:r<w2.heap.size:=by
    rcases Oy r w2.heap.size with q|q
    ·exact q
    ·rw[Ow q]at hw2r;cases hw2r
   have fin:∀w5:World,w5.os=w2.os/\w5.tape=w2.tape/\w5.output=w2.output/\w5.heap.size=w2.heap.size->w5.heap[bf e]?=some (uN (arr e) (T e) (fz e) (a e) (cap e) (k e))->(∀b,b≠bf e->w5.heap[b]?=w2.heap[b]?) ->
     (∃(seen:Array Nat) (c0:Nat),w5.heap[r]?=some (.mapIter (some bm) clock seen c0)/\clock<=c0/\(w5.os=w.os/\w5.tape=w.tape/\w5.output=w.output/\w.heap.size<=w5.heap.size) /\
      (∀b,b<r->(∀x∈es.toList,seen.contains x.born=true->b≠bf x)->w5.heap[b]?=w.heap[b]?)/\(∀x∈es.toList,seen.contains x.born=true->w5.heap[bf x]?=some (uN (arr x) (T x) (fz x) (a x) (cap x) (k x))))/\(leftOf es (w5.iterSeen r)).size<(leftOf es (wr.iterSeen r)).size:=by
    intro w5 q1 q2 q3;have q4:w5.heap[r]?=some (.mapIter (some bm) clock (seen.push e.born) clock):=by rw[q3 r (by omega)];exact hw2r
    refine⟨⟨seen.push e.born,clock,q4,NG _,⟨q1.1.trans hb2.1,q1.2.1.trans hb2.2.1,q1.2.2.1.trans hb2.2.2.1,by rw[q1.2.2.2];exact hb2.2.2.2⟩,λb hb h=>?_,λx hx h=>?_⟩,?_⟩
    ·rw[q3 b (h e hmem (by simp[contains_push])),hw2o b (by omega)];exact hun b hb λx hx hs=>h x hx (by rw[contains_push,hs];rfl)
    ·by_cases hxe:x.born=e.born
     ·have:x=e:=by
       exact CX es.toList hst.2.1 hx hmem hxe
      subst this;exact q2
     ·have hs:seen.contains x.born=true:=by
       rw[contains_push,show(x.born==e.born)=false from OK hxe,O9]at h;exact h
      have hnb:bf x≠bf e:=λe1=>hxe (hinj x hx e hmem e1)
      rw[q3 _ hnb,hw2o _ (by have:=hlt (hv x hx).1.blk;omega)];exact hse x hx hs
    ·have:w5.iterSeen r=w2.iterSeen r:=by unfold World.iterSeen;rw[q4,hw2r]
     rw[this];exact hmeas
   clear hv hinj hun hse hne;by_cases hm:Int.tmod keep ((n e-s e:Nat)+1:Int)<0
   ·have e7:Int.tmod keep ((n e-s e:Nat)+1:Int)+(((n e-s e:Nat):Int)+1)=((k e-s e:Nat):Int):=by have:=hk4 hm;omega
    go_wp2
    go_quiet (fail)
    go_wp2
    obtain⟨w3,hw3⟩:∃w3,w2.drewN nq=w3:=⟨_,rfl⟩
    have b3:w3.heap[bf e]?=some (.cells (arr e) (T e) (fz e)):=by rw[<- hw3];exact hf2
    have d0:w3.cell? ⟨bf e,0,none⟩=some (.slice (a e) (n e) (cap e)):=by rw[<- hw3];exact c0'
    have d1:w3.cell? ⟨bf e,1,none⟩=some (.int .i64 (s e)):=by rw[<- hw3];exact c1'
    have g0:w3.frozen? ⟨bf e,0,none⟩=false:=by rw[<- hw3];exact f0'
    have g1:w3.frozen? ⟨bf e,1,none⟩=false:=by rw[<- hw3];exact f1'
    rw[hw3]
    go_region
    obtain⟨w4,hw4⟩:∃w4,(w3.setCell ⟨bf e,0,none⟩ (Value.slice (a e) (k e) (cap e))).drew=w4:=⟨_,rfl⟩
    have b4:w4.heap[bf e]?=some (.cells ((arr e).setIfInBounds 0 (.slice (a e) (k e) (cap e))) (T e) (fz e)):=by rw[<- hw4];exact fq w3 _ 0 _ _ _ _ b3
    have z4:((arr e).setIfInBounds 0 (Value.slice (a e) (k e) (cap e))).size=(arr e).size:=Pu;have c4:w4.cell? ⟨bf e,0,none⟩=some (.slice (a e) (k e) (cap e)):=by rw[cell_of_row w4 _ 0 _ _ _ b4,OI (by omega)]
    have c5:w4.cell? ⟨bf e,1,none⟩=some (.int .i64 (s e)):=by rw[cell_of_row w4 _ 1 _ _ _ b4,Ou (by omega)];exact hE.c1
    have f4:w4.frozen? ⟨bf e,0,none⟩=false:=fi w4 _ 0 _ _ _ b4 (by rw[z4];exact hfz) (by omega);have f5:w4.frozen? ⟨bf e,1,none⟩=false:=fi w4 _ 1 _ _ _ b4 (by rw[z4];exact hfz) (by omega);rw[hw4];have hfin:=fin (w4.setCell ⟨bf e,1,none⟩ (.int .i64 (k e))) ⟨by rw[<- hw4,<- hw3];rfl,by rw[<- hw4,<- hw3];rfl,by rw[<- hw4,<- hw3];rfl,by rw[<- hw4,<- hw3];simp[World.setCell,World.drew,World.drewN]⟩ (fq w4 _ 1 _ _ _ _ b4) (λb hb=>by rw[heap_setCell_other _ _ _ _ hb,<- hw4,heap_drew,heap_setCell_other _ _ _ _ hb,<- hw3];rfl);clear fin
    go_wp2
    go_roundw
    case rel=>first|exact hfin.1|(rw[show(s e:Int)+((k e-s e:Nat):Int)=(k e:Int) by omega];exact hfin.1)
    case measure=>first|exact hfin.2|(rw[show(s e:Int)+((k e-s e:Nat):Int)=(k e:Int) by omega];exact hfin.2)
   ·have e7:Int.tmod keep ((n e-s e:Nat)+1:Int)=((k e-s e:Nat):Int):=by have:=hk5 hm;omega
    have hm':¬ ((k e-s e:Nat):Int)<0:=by omega
    clear hm hk4 hk5 hk6
    go_wp2
    go_quiet (fail)
    go_wp2
    obtain⟨w3,hw3⟩:∃w3,w2.drewN nq=w3:=⟨_,rfl⟩
    have b3:w3.heap[bf e]?=some (.cells (arr e) (T e) (fz e)):=by rw[<- hw3];exact hf2
    have d0:w3.cell? ⟨bf e,0,none⟩=some (.slice (a e) (n e) (cap e)):=by rw[<- hw3];exact c0'
    have d1:w3.cell? ⟨bf e,1,none⟩=some (.int .i64 (s e)):=by rw[<- hw3];exact c1'
    have g0:w3.frozen? ⟨bf e,0,none⟩=false:=by rw[<- hw3];exact f0'
    have g1:w3.frozen? ⟨bf e,1,none⟩=false:=by rw[<- hw3];exact f1'
    rw[hw3]
    go_region
    obtain⟨w4,hw4⟩:∃w4,(w3.setCell ⟨bf e,0,none⟩ (Value.slice (a e) (k e) (cap e))).drew=w4:=⟨_,rfl⟩
    have b4:w4.heap[bf e]?=some (.cells ((arr e).setIfInBounds 0 (.slice (a e) (k e) (cap e))) (T e) (fz e)):=by rw[<- hw4];exact fq w3 _ 0 _ _ _ _ b3
    have z4:((arr e).setIfInBounds 0 (Value.slice (a e) (k e) (cap e))).size=(arr e).size:=Pu;have c4:w4.cell? ⟨bf e,0,none⟩=some (.slice (a e) (k e) (cap e)):=by rw[cell_of_row w4 _ 0 _ _ _ b4,OI (by omega)]
    have c5:w4.cell? ⟨bf e,1,none⟩=some (.int .i64 (s e)):=by rw[cell_of_row w4 _ 1 _ _ _ b4,Ou (by omega)];exact hE.c1
    have f4:w4.frozen? ⟨bf e,0,none⟩=false:=fi w4 _ 0 _ _ _ b4 (by rw[z4];exact hfz) (by omega);have f5:w4.frozen? ⟨bf e,1,none⟩=false:=fi w4 _ 1 _ _ _ b4 (by rw[z4];exact hfz) (by omega);rw[hw4];have hfin:=fin (w4.setCell ⟨bf e,1,none⟩ (.int .i64 (k e))) ⟨by rw[<- hw4,<- hw3];rfl,by rw[<- hw4,<- hw3];rfl,by rw[<- hw4,<- hw3];rfl,by rw[<- hw4,<- hw3];simp[World.setCell,World.drew,World.drewN]⟩ (fq w4 _ 1 _ _ _ _ b4) (λb hb=>by rw[heap_setCell_other _ _ _ _ hb,<- hw4,heap_drew,heap_setCell_other _ _ _ _ hb,<- hw3];rfl);clear fin
    go_wp2
    go_roundw
    case rel=>first|exact hfin.1|(rw[show(s e:Int)+((k e-s e:Nat):Int)=(k e:Int) by omega];exact hfin.1)
    case measure=>first|exact hfin.2|(rw[show(s e:Int)+((k e-s e:Nat):Int)=(k e:Int) by omega];exact hfin.2)
end Go.Proofs.Due
namespace Go.Proofs.Due
open Go.RowKit Go.Proofs Go.Eng
set_option maxRecDepth 100000
abbrev dL (l:List Int):CoD:=⟨1050434,29,2,.dat,.int .i64,l⟩
abbrev dSt (l:List Bool):CoD:=⟨1050435,29,3,.dat,.bool,l⟩
abbrev dSf (l:List Int):CoD:=⟨1062593,219,1,.dat,.int .i64,l⟩
abbrev cs5 (fs:List (List (Int×Option Nat)))(left:List Int)(st:List Bool)(bl:List (List Int))(sf:List Int):List CoD:=[dF fs,dL left,dSt st,dB bl,dSf sf]
section
variable {A:Ann}
def teN (te:TE)(w':World):TE:={ te with cur:=λcid j=>if cid=1062592 then((te.ι 219 j).bind λb=>w'.cell? ⟨b,0,none⟩).getD (te.cur cid j)else te.cur cid j }
theorem Mx {fs fs':List (List (Int×Option Nat))}{left left':List Int}{st st':List Bool}{bl bl':List (List Int)}{sf sf':List Int}(h1:fs'.length=fs.length)(h2:left'.length=left.length)(h3:st'.length=st.length)(h4:bl'.length=bl.length)(h5:sf'.length=sf.length)
  {cid t off:Nat} {m:Eng.Mode} {k:K} {xs:List k.T} {g:Nat} {p:Option Nat} (h:coHp (cs5 fs' left' st' bl' sf') cid=some (.col t off m k xs g p)):∃xs0:List k.T,coHp (cs5 fs left st bl sf) cid=some (.col t off m k xs0 0 none)/\xs.length=xs0.length/\g=0/\p=none:=by
 obtain⟨d,hd,rfl,e⟩:=bt h;simp only[NO,Oc,ON]at hd;rcases hd with rfl|rfl|rfl|rfl|rfl<;>cases e
 ·exact⟨fs,by simp[coHp],h1,rfl,rfl⟩
 ·exact⟨left,by simp[coHp],h2,rfl,rfl⟩
 ·exact⟨st,by simp[coHp],h3,rfl,rfl⟩
 ·exact⟨bl,by simp[coHp],h4,rfl,rfl⟩
 ·exact⟨sf,by simp[coHp],h5,rfl,rfl⟩
structure Cut (te:TE)(w w':World)(gs:List Nat)(bl bl':List (List Int))(sf sf':List Int)(kN:Nat->Nat):Prop where
 file:∀g∈gs,∃bf arr T fz a n cap,te.ι 219 g=some bf/\w.heap[bf]?=some (.cells arr T fz)/\arr[0]?=some (.slice a n cap)/\2<=arr.size/\kN g<=n/\w'.heap[bf]?=some (uN arr T fz a cap (kN g))
 kb:∀g∈gs,kN g<=1099511627776
 lb:bl'.length=bl.length
 ls:sf'.length=sf.length
 nb:∀g∈gs,bl'[g]?=some ((bl.getD g []).take (kN g))/\sf'[g]?=some (kN g:Int)
 ob:∀g,g ∉ gs->bl'[g]?=bl[g]?/\sf'[g]?=sf[g]?
theorem Bs {te:TE}{w w':World}{Sb:Nat->Prop}{fs:List (List (Int×Option Nat))}{left:List Int}{st:List Bool}{bl bl':List (List Int)}{sf sf':List Int}(hbel:∀b,Sb b->b<w.heap.size)(hR:ManR A (coC te w Sb (cs5 fs left st bl sf))){i bd:Nat}(hi:te.ι 29 i=some bd){gs:List Nat}{kN:Nat->Nat}(hc:Cut te w w' gs bl bl' sf sf' kN)
  {darr:Array Value} {dT:TypeId} {dfz:Nat×Nat} (hd1:w.heap[bd]?=some (.cells darr dT dfz)) (hd4:4<=darr.size) (hd2:w'.heap[bd]?=some (.cells ((darr.setIfInBounds 3 (.bool false)).setIfInBounds 2 (.int .i64 (-1))) dT dfz))
  (hsz:w.heap.size<=w'.heap.size) (hoth:∀b,b<w.heap.size->b≠bd->(∀g∈gs,te.ι 219 g≠some b)->w'.heap[b]?=w.heap[b]?):
  Man A te w ⟨λb=>False,Sb,XOf te w Sb (cs5 fs left st bl sf)⟩ (coC (teN te w') w' Sb (cs5 fs (left.set i (-1)) (st.set i false) bl' sf')):=by
 have up:=λ{cid t off m k} {xs:List (K.T k)} {g p} (h:coHp (cs5 fs (left.set i (-1)) (st.set i false) bl' sf') cid=some (.col t off m k xs g p))=>Mx (fs:=fs) (left:=left) (st:=st) (bl:=bl) (sf:=sf) rfl NA NA hc.lb hc.ls h
 have held:∀{t},cO (coC (teN te w') w' Sb (cs5 fs (left.set i (-1)) (st.set i false) bl' sf')) t->cO (coC te w Sb (cs5 fs left st bl sf)) t:=by
  rintro t ⟨cid,off,m,k,xs,g,p,h⟩;obtain⟨xs0,q,_⟩:=up h;exact⟨cid,off,m,k,xs0,0,none,q⟩
 have own:∀{l b},OwnX (coC (teN te w') w' Sb (cs5 fs (left.set i (-1)) (st.set i false) bl' sf')) l b->OwnX (coC te w Sb (cs5 fs left st bl sf)) l b:=by
  intro l b h;cases l with
  |man t j=>exact⟨held h.1,h.2⟩
  |own cid j=>
   obtain⟨⟨t,off,m,k,xs,g,p,q1,q2,q3⟩,q4⟩:=h;obtain⟨xs0,q,ql,_⟩:=up q1;exact⟨⟨t,off,m,k,xs0,0,none,q,q2,by omega⟩,q4⟩
 have h29:cO (coC te w Sb (cs5 fs left st bl sf)) 29:=⟨1050432,0,.mp,KF,fs,0,none,by simp[coC,coHp]⟩
 have h219:cO (coC te w Sb (cs5 fs left st bl sf)) 219:=⟨1062592,0,.own,.slice (.int .u8),bl,0,none,by simp[coC,coHp]⟩
 -- which blocks turn
 have same:∀l b,OwnX (coC te w Sb (cs5 fs left st bl sf)) l b->l≠ .man 29 i->(∀g∈gs,l≠ .man 219 g)->w'.heap[b]?=w.heap[b]?:=by
  intro l b hl h1 h2;refine hoth b (hR.sep l b hl).1 (λe=>?_) (λg hg e=>?_)
  ·subst e;exact h1 (hR.one l (.man 29 i) _ hl ⟨h29,hi⟩)
  ·exact h2 g hg (hR.one l (.man 219 g) b hl ⟨h219,e⟩)
 have hst:∀b,Sb b->w'.heap[b]?=w.heap[b]?:=λb hb=>by
  refine hoth b (hbel b hb) (λe=>?_) (λg hg e=>?_)
  ·subst e;exact(hR.sep (.man 29 i) _ ⟨h29,hi⟩).2.1 hb
  ·exact(hR.sep (.man 219 g) b ⟨h219,e⟩).2.1 hb
 have hle:TLe te (teN te w'):=⟨rfl,λ_ _ _ h=>h⟩
 -- a box behind it
 have box:∀t j b,cO (coC te w Sb (cs5 fs left st bl sf)) t->te.ι t j=some b->∃arr arr' T fz,w.heap[b]?=some (.cells arr T fz)/\FzOk arr.size fz/\(∀v∈arr.toList,Go.Eng.one v=true)/\(∀d∈A.man t,d.1+csz d.2.1 d.2.2<=arr.size)/\w'.heap[b]?=some (.cells arr' T fz)/\arr'.size=arr.size/\(∀v∈arr'.toList,Go.Eng.one v=true) /\
   ∀o,¬ (t=29/\j=i/\(o=2\/o=3))->¬ (t=219/\j∈gs/\(o=0\/o=1))->arr'[o]?=arr[o]?:=by
  intro t j b hh hj;obtain⟨arr,⟨T,fz,q1,q2⟩,q3,q4⟩:=hR.box t j b hh hj;have one_set:∀{a:Array Value} {o:Nat} {v:Value},(∀v∈a.toList,Go.Eng.one v=true)->Go.Eng.one v=true->∀x∈(a.setIfInBounds o v).toList,Go.Eng.one x=true:=by
   intro a o v ha hv x hx;rw[QD]at hx;rcases OD hx with hx|rfl
   ·exact ha x hx
   ·exact hv
  by_cases c1:t=29/\j=i
  ·obtain⟨rfl,rfl⟩:=c1;rw[hi]at hj;cases hj;have:w.heap[bd]?=some (.cells arr T fz):=q1;rw[hd1]at this;cases this;refine⟨_,_,_,_,hd1,q2,q3,q4,hd2,by simp,one_set (one_set q3 rfl) rfl,λo ho _=>?_⟩;have:o≠2/\o≠3:=⟨λe=>ho ⟨rfl,rfl,.inl e⟩,λe=>ho ⟨rfl,rfl,.inr e⟩⟩
   rw[Ou (by omega),Ou (by omega)]
  ·by_cases c2:t=219/\j∈gs
   ·obtain⟨rfl,hg⟩:=c2;obtain⟨bf,arr2,T2,fz2,a,n,cap,e1,e2,e3,e4,e5,e6⟩:=hc.file j hg;rw[hj]at e1;cases e1;have:w.heap[b]?=some (.cells arr T fz):=q1;rw[e2]at this;cases this;refine⟨_,_,_,_,e2,q2,q3,q4,e6,by simp,one_set (one_set q3 rfl) rfl,λo _ ho=>?_⟩;have:o≠0/\o≠1:=⟨λe=>ho ⟨rfl,hg,.inl e⟩,λe=>ho ⟨rfl,hg,.inr e⟩⟩
    rw[Ou (by omega),Ou (by omega)]
   ·have hs:=same (.man t j) b ⟨hh,hj⟩ (λe=>c1 (by cases e;exact⟨rfl,rfl⟩)) (λg hg e=>c2 (by cases e;exact⟨rfl,hg⟩));exact⟨arr,arr,T,fz,q1,q2,q3,q4,by rw[hs];exact q1,rfl,q3,λ_ _ _=>rfl⟩
 have hbx:∀(t j off n:Nat),cO (coC te w Sb (cs5 fs left st bl sf)) t->(∀o,off<=o->o<off+n->¬ (t=29/\j=i/\(o=2\/o=3))/\¬ (t=219/\j∈gs/\(o=0\/o=1)))->∀b arr',te.ι t j=some b->Blk w' b arr'->te.ι t j=some b/\∃arr,Blk w b arr/\∀o,off<=o->o<off+n->arr'[o]?=arr[o]?:=by
  intro t j off n hh ho b arr' hj hb;obtain⟨arr,arr2,T,fz,q1,_,_,_,q5,_,_,q8⟩:=box t j b hh hj;have:=Blk.uniqM hb ⟨T,fz,q5⟩;subst this;exact⟨hj,arr,⟨T,fz,q1⟩,λo h1 h2=>q8 o (ho o h1 h2).1 (ho o h1 h2).2⟩
 have hit:=hR.items;have R:ManR A (coC (teN te w') w' Sb (cs5 fs (left.set i (-1)) (st.set i false) bl' sf')):=by
  refine ManR.of_items hR.lay (λcid t off m k xs g p h=>?_) (λcid t off m k xs g p h j=>?_) (λt j b hh hj=>?_) ?_ (λl b hl=>?_) (λl l' b hl hl'=>hR.one l l' b (own hl) (own hl'))
  ·obtain⟨xs0,q,_⟩:=up h;exact hR.ci _ _ _ _ _ _ _ _ q
  ·obtain⟨xs0,q,ql,_⟩:=up h;rw[ql];exact hR.dom _ _ _ _ _ _ _ _ q j
  ·obtain⟨arr,arr',T,fz,q1,q2,q3,q4,q5,q6,q7,_⟩:=box t j b (held hh) hj;exact⟨arr',⟨T,fz,q5,by rw[q6];exact q2⟩,q7,λd hd=>by rw[q6];exact q4 d hd⟩
  ·intro cid t off m k xs g p h j x hx;obtain⟨d,hd,rfl,e⟩:=bt h;simp only[NO,Oc,ON]at hd;rcases hd with rfl|rfl|rfl|rfl|rfl<;>cases e
   ·-- the files
    have h0:=hit 1050432 29 0 .mp KF fs 0 none (by simp[coC,coHp]) j x hx;refine dh.mono (te:=te) (te':=teN te w') (w:=w) (Sb:=Sb) (t:=29) (i:=j) (off:=0) (m:=.mp) (k:=KF) hle hst (λ_ q=>q) (λ_ b hb=>same (.own 1050432 j) b ⟨⟨29,0,.mp,KF,fs,0,none,by simp[coC,coHp],by simp,(NJ.1 hx).1⟩,hb⟩ (by simp) (by simp)) (hbx 29 j 0 1 h29 (λo h1 h2=>⟨by omega,by omega⟩)) (λq=>q) h0
   ·-- left
    by_cases e:j=i
    ·subst e;have hx':(left.set j (-1))[j]?=some x:=hx;have hlt:j<left.length:=by have:=(NJ.1 hx').1;simpa using this
     rw[OG hlt]at hx';cases hx';intro b arr hb hk;have hb:te.ι 29 j=some b:=hb;rw[hi]at hb;cases hb;have:=Blk.uniqM hk ⟨_,_,hd2⟩;subst this;exact⟨[.int .i64 (-1)],⟨rfl,rfl⟩,λo v hv=>by
      cases o with
      |zero=>cases hv;rw[OI (by rw[Pu];omega)]
      |succ o=>cases hv⟩
    ·have hx':(left.set i (-1))[j]?=some x:=hx;rw[OH (Ne.symm e)]at hx';exact dh.mono (te:=te) (te':=teN te w') (w:=w) (Sb:=Sb) (t:=29) (i:=j) (off:=2) (m:=.dat) (k:=.int .i64) hle hst (λ_ q=>q) (λq=>(q rfl).elim) (hbx 29 j 2 1 h29 (λo h1 h2=>⟨λq=>e q.2.1,by omega⟩)) (λq=>q) (hit 1050434 29 2 .dat (.int .i64) left 0 none (by simp[coC,coHp]) j x hx')
   ·-- stopped
    by_cases e:j=i
    ·subst e;have hx':(st.set j false)[j]?=some x:=hx;have hlt:j<st.length:=by have:=(NJ.1 hx').1;simpa using this
     rw[OG hlt]at hx';cases hx';intro b arr hb hk;have hb:te.ι 29 j=some b:=hb;rw[hi]at hb;cases hb;have:=Blk.uniqM hk ⟨_,_,hd2⟩;subst this;exact⟨[.bool false],rfl,λo v hv=>by
      cases o with
      |zero=>cases hv;rw[Ou (show(2:Nat)≠3 by decide),OI (by omega)]
      |succ o=>cases hv⟩
    ·have hx':(st.set i false)[j]?=some x:=hx;rw[OH (Ne.symm e)]at hx';exact dh.mono (te:=te) (te':=teN te w') (w:=w) (Sb:=Sb) (t:=29) (i:=j) (off:=3) (m:=.dat) (k:=.bool) hle hst (λ_ q=>q) (λq=>(q rfl).elim) (hbx 29 j 3 1 h29 (λo h1 h2=>⟨λq=>e q.2.1,by omega⟩)) (λq=>q) (hit 1050435 29 3 .dat .bool st 0 none (by simp[coC,coHp]) j x hx')
   ·-- bytes
    have hx:bl'[j]?=some x:=hx;have hjl:j<bl.length:=by have:=(NJ.1 hx).1;rw[hc.lb]at this;exact this
    have hob:∀b,te.ow 1062592 j=some b->w'.heap[b]?=w.heap[b]?:=λb hb=>same (.own 1062592 j) b ⟨⟨219,0,.own,.slice (.int .u8),bl,0,none,by simp[coC,coHp],by simp,hjl⟩,hb⟩ (by simp) (by simp)
    by_cases e:j∈gs
    ·obtain⟨bf,arr,T,fz,a,n,cap,e1,e2,e3,e4,e5,e6⟩:=hc.file j e;have e7:=(hc.nb j e).1;rw[hx]at e7;cases e7;have h0:=hit 1062592 219 0 .own (.slice (.int .u8)) bl 0 none (by simp[coC,coHp]) j _ (getD_some [] hjl);have hcur:(teN te w').cur 1062592 j=.slice a (kN j) cap:=by
      unfold teN;simp only[NI,e1,O3];rw[cell_of_row w' bf 0 _ _ _ e6,Ou (by omega),OI (by omega)];rfl
     show dh (teN te w') w' Sb 219 j 0 (te.ow 1062592 j) ((teN te w').cur 1062592 j) _ .own (.slice (.int .u8)) _;rw[hcur];refine⟨?_,λ_ b arr' hb hk=>?_⟩
     ·have h1:bR te w Sb (te.ow 1062592 j) (.int .u8) (bl.getD j []) (te.cur 1062592 j):=h0.1;have h2:te.cur 1062592 j=.slice a n cap:=by
       have:=h0.2 (by simp) bf arr e1 ⟨T,fz,e2⟩;rw[e3]at this;exact(P1 this).symm
      rw[h2]at h1;cases hw:te.ow 1062592 j with
      |none=>
       rw[hw]at h1;obtain⟨q1,q2⟩:=h1;have q2:bl.getD j []=[]:=q2;cases q1;have:kN j=0:=by omega
       rw[this,q2];exact⟨rfl,rfl⟩
      |some b=>
       rw[hw]at h1;obtain⟨cap',arr',a',q1,q2,q3,q4,q5,q6⟩:=h1;cases q1;have hl:((bl.getD j []).take (kN j)).length=kN j:=by rw[OA];exact P0 e5
       refine⟨cap,arr',a',by rw[hl],by rw[hl];exact Oa e5 q2,q3,q4.of (hob b hw),by rw[hl];exact Oa (Of _ e5) q5,λo y hy=>?_⟩;have hy':(bl.getD j [])[o]?=some y:=by
        rw[Ol]at hy;split at hy
        ·exact hy
        ·cases hy
       obtain⟨vs,r1,r2⟩:=q6 o y hy';exact⟨vs,r1,r2⟩
     ·have hb:te.ι 219 j=some b:=hb;rw[e1]at hb;cases hb;have:=Blk.uniqM hk ⟨_,_,e6⟩;subst this;rw[Ou (by omega),OI (by omega)]
    ·have hx':bl[j]?=some x:=by rw[<- (hc.ob j e).1];exact hx
     have h0:=hit 1062592 219 0 .own (.slice (.int .u8)) bl 0 none (by simp[coC,coHp]) j x hx';have hcur:(teN te w').cur 1062592 j=te.cur 1062592 j:=by
      unfold teN;simp only[NI];cases hj:te.ι 219 j with
      |none=>rfl
      |some b=>
       obtain⟨arr,arr2,T,fz,q1,_,_,_,q5,_,_,q8⟩:=box 219 j b h219 hj;have h9:=h0.2 (by simp) b arr hj ⟨T,fz,q1⟩;simp only[O3];rw[cell_of_row w' b 0 _ _ _ q5,q8 0 (by omega) (λq=>e q.2.1)];exact congrArg (λo=>Option.getD o _) h9
     show dh (teN te w') w' Sb 219 j 0 (te.ow 1062592 j) ((teN te w').cur 1062592 j) _ .own (.slice (.int .u8)) _;rw[hcur];exact dh.mono (te:=te) (te':=teN te w') (w:=w) (Sb:=Sb) (t:=219) (i:=j) (off:=0) (m:=.own) (k:=.slice (.int .u8)) hle hst (λ_ q=>q) (λ_=>hob) (hbx 219 j 0 1 h219 (λo h1 h2=>⟨by omega,λq=>e q.2.1⟩)) (λq=>q) h0
   ·-- safe
    have hx:sf'[j]?=some x:=hx;by_cases e:j∈gs
    ·obtain⟨bf,arr,T,fz,a,n,cap,e1,e2,e3,e4,e5,e6⟩:=hc.file j e;have e7:=(hc.nb j e).2;rw[hx]at e7;cases e7;intro b arr' hb hk;have hb:te.ι 219 j=some b:=hb;rw[e1]at hb;cases hb;have:=Blk.uniqM hk ⟨_,_,e6⟩;subst this;have hkb:=hc.kb j e;exact⟨[.int .i64 (kN j)],⟨rfl,rfl⟩,λo v hv=>by
      cases o with
      |zero=>cases hv;rw[OI (by rw[Pu];omega)]
      |succ o=>cases hv⟩
    ·have hx':sf[j]?=some x:=by rw[<- (hc.ob j e).2];exact hx
     exact dh.mono (te:=te) (te':=teN te w') (w:=w) (Sb:=Sb) (t:=219) (i:=j) (off:=1) (m:=.dat) (k:=.int .i64) hle hst (λ_ q=>q) (λq=>(q rfl).elim) (hbx 219 j 1 1 h219 (λo h1 h2=>⟨by omega,λq=>e q.2.1⟩)) (λq=>q) (hit 1062593 219 1 .dat (.int .i64) sf 0 none (by simp[coC,coHp]) j x hx')
  ·obtain⟨q1,q2,q3⟩:=hR.sep l b (own hl);exact⟨N1 q1 hsz,q2,λid hid=>by obtain⟨z,_⟩:=hid;cases z⟩
 refine⟨R,λl b hl=>.inr (.inr ⟨l,own hl⟩),λt j b arr hh hj hlt hb=>?_,hle,λt _=>rfl,λcid hn=>⟨rfl,?_⟩,λt j b hj=>.inl hj⟩
 ·obtain⟨arr0,arr',T,fz,q1,q2,q3,q4,q5,q6,q7,q8⟩:=box t j b (held hh) hj;have:=Blk.uniqM hb ⟨T,fz,q5⟩;subst this;refine⟨arr0,⟨T,fz,q1⟩,q6.symm,λo ho=>q8 o ?_ ?_⟩
  ·rintro⟨rfl,_,rfl|rfl⟩
   ·exact ho 1050434 2 .dat (.int .i64) (left.set i (-1)) 0 none (by simp[coC,coHp]) ⟨NG _,Pj _⟩
   ·exact ho 1050435 3 .dat .bool (st.set i false) 0 none (by simp[coC,coHp]) ⟨NG _,Pj _⟩
  ·rintro⟨rfl,_,rfl|rfl⟩
   ·exact ho 1062592 0 .own (.slice (.int .u8)) bl' 0 none (by simp[coC,coHp]) ⟨NG _,Pj _⟩
   ·exact ho 1062593 1 .dat (.int .i64) sf' 0 none (by simp[coC,coHp]) ⟨NG _,Pj _⟩
 ·funext j;have:cid≠1062592:=by
   rintro rfl;exact hn 219 0 .own (.slice (.int .u8)) bl' 0 none (by simp[coC,coHp])
  show(teN te w').cur cid j=te.cur cid j;unfold teN;simp only[ND this]
end
end Go.Proofs.Due
namespace Go.Proofs.Due
open Go.RowKit Go.Proofs Go.Eng
set_option maxRecDepth 100000
set_option maxHeartbeats 1000000
theorem Nf {te:TE}{w:World}{bm:Nat}{ents:Array MapEntry}{clock:Nat}{es:List (Int×Option Nat)}{name:Int}{g:Nat}(hb:w.heap[bm]?=some (.map ents clock))(h:LR (RepM te (.ref 219)) es ents.toList)(hg:aO none es name=some g):
  ∃bf,te.ι 219 g=some bf/\(Instr.lookup 156 (.map (some bm)) (.int .i64 name) false).run Tryz.prog w=.ok (.pointer (some ⟨bf,0,none⟩)) w:=by
 have hkt:Tryz.prog.underlying 3=some (.int .i64):=Tryz.underlying3;have hck:=MapKept.run_checkKey (w:=w) (k:=.int .i64 name) hkt rfl ents.isEmpty 9999;have e0:(K.ref 219).dflt=(none:Option Nat):=rfl;rcases lD (k:=.ref 219) name none es ents.toList 0 h with⟨f1,f2,_⟩|⟨j,e,f1,f2,f3,f4,_⟩
 ·have f2:aO (none:Option Nat) es name=none:=f2;rw[hg]at f2;cases f2
 ·have f4:RefV te 219 (aO (none:Option Nat) es name) e.val:=f4;rw[hg]at f4;obtain⟨bf,q1,q2⟩:=f4;refine⟨bf,q1,?_⟩;unfold Instr.lookup;rw[Go.Eng.run_ok (Go.Eng.run_underlying Tryz.underlying156 w)];simp only[];rw[Go.Eng.run_ok (MapKept.run_getObj_map hb)];simp only[];rw[Go.Eng.run_pb,Go.Eng.run_ok hck,Go.Eng.run_ok (MapKept.run_findKey hkt f1)];rw[q2];rfl
theorem Hp (bd:Nat)(w:World)(c2:w.cell? ⟨bd,2,none⟩=some (.int .i64 (-1)))(c3:w.cell? ⟨bd,3,none⟩=some (.bool false)):
  Calls Tryz.prog 140 #[.pointer (some ⟨bd,0,none⟩)] w λe w'=>e=.returned (.bool true)/\w'=w:=by
 go_enter Tryz.func140,Tryz.ntmps140
 go_wp2
 go_ret
 exact⟨rfl,rfl⟩
theorem Mv (bd bm bf:Nat)(w:World)(name:Int)(k:Nat)(c0:w.cell? ⟨bd,0,none⟩=some (.map (some bm)))(c2:w.cell? ⟨bd,2,none⟩=some (.int .i64 (-1)))(c3:w.cell? ⟨bd,3,none⟩=some (.bool false))
  (hlk:(Instr.lookup 156 (.map (some bm)) (.int .i64 name) false).run Tryz.prog w=.ok (.pointer (some ⟨bf,0,none⟩)) w)
  (a:Option Addr) (n cap:Nat) (d0:w.cell? ⟨bf,0,none⟩=some (.slice a n cap)) (d1:∃v,w.cell? ⟨bf,1,none⟩=some v) (f0:w.frozen? ⟨bf,0,none⟩=false) (f1:w.frozen? ⟨bf,1,none⟩=false) (hk:k<=n) (hn:n<=cap):
  Calls Tryz.prog 114 #[.pointer (some ⟨bd,0,none⟩),.int .i64 name,.int .i64 k] w λe w'=>e=.returned .nilIface/\w'=(w.setCell ⟨bf,0,none⟩ (.slice a k cap)).setCell ⟨bf,1,none⟩ (.int .i64 k):=by
 have hL:=Ii ⟨bd,0,none⟩ _ w c0;have hw:=Hp bd w c2 c3;obtain⟨v1,d1⟩:=d1;have hL2:=lv22 ⟨bf,0,none⟩ _ w d0
 go_enter Tryz.func114,Tryz.ntmps114
 go_wp2_with (go_at_call 140;refine hw.mono ?_;rintro e w2 ⟨rfl,rfl⟩)
 go_ret
 exact⟨rfl,rfl⟩
end Go.Proofs.Due
namespace Go.Proofs.Due
open Go.RowKit Go.Proofs Go.Eng
set_option maxRecDepth 100000
theorem tU (keep:Int):∀(es:List (Int×Option Nat))(bs:List (List Int))(sf:List Int)(p:List (List Int)×List Int),zB keep es bs sf=some p->nodN (es.map λe=>e.2.getD 0)=true ->
  (∀e∈es,∃g,e.2=some g/\g<bs.length/\g<sf.length/\(bs.getD g []).length<=1000000/\0<=sf.getD g 0/\sf.getD g 0<=((bs.getD g []).length:Int))/\p.1.length=bs.length/\p.2.length=sf.length /\
  (∀e∈es,∀g,e.2=some g->p.1[g]?=some ((bs.getD g []).take (Int.toNat (ma keep ((bs.getD g []).length:Int) (sf.getD g 0))))/\p.2[g]?=some (ma keep ((bs.getD g []).length:Int) (sf.getD g 0))) /\
  ∀g,(∀e∈es,e.2≠some g)->p.1[g]?=bs[g]?/\p.2[g]?=sf[g]?
 |[],bs,sf,p,h,hn=>by
  cases h;exact⟨λe h=>(by cases h),rfl,rfl,λe h=>(by cases h),λg _=>⟨rfl,rfl⟩⟩
 |e::r,bs,sf,p,h,hn=>by
  unfold zB at h;cases he:e.2 with
  |none=>rw[he]at h;cases h
  |some g=>
   rw[he]at h;simp only at h;cases hcnd:(Nat.blt g bs.length&&(Nat.blt g sf.length&&(Nat.ble (bs.getD g []).length 1000000&&(decide (0<=sf.getD g 0)&&decide (sf.getD g 0<=((bs.getD g []).length:Int))))))with
   |false=>rw[hcnd]at h;cases h
   |true=>
    rw[hcnd]at h;simp only[NH]at h;simp only[NM,N0]at hcnd;obtain⟨c1,c2,c3,c4,c5⟩:=hcnd;have c1:g<bs.length:=N3 c1;have c2:g<sf.length:=N3 c2;have c3:=N3 c3;simp only[NV,nodN,NM,Oz,he,NN]at hn;obtain⟨n1,n2⟩:=hn;obtain⟨i1,i2,i3,i4,i5⟩:=tU keep r _ _ p h n2;have hne:∀e'∈r,e'.2≠some g:=λe' h' q=>by
     have:(r.map λe=>e.2.getD 0).contains g=true:=by
      rw[Qf];exact⟨g,N9.2 ⟨e',h',by rw[q];rfl⟩,by simp⟩
     rw[this]at n1;cases n1
    have gd:∀g',g'≠g->(bs.set g ((bs.getD g []).take (Int.toNat (ma keep ((bs.getD g []).length:Int) (sf.getD g 0))))).getD g' []=bs.getD g' []/\(sf.set g (ma keep ((bs.getD g []).length:Int) (sf.getD g 0))).getD g' 0=sf.getD g' 0:=λg' hg=>by
     simp only[NP,OH (Ne.symm hg),and_self]
    refine⟨λe' h'=>?_,by rw[i2,NA],by rw[i3,NA],λe' h' g' hg'=>?_,λg' hg'=>?_⟩
    ·rcases NO.1 h' with rfl|h'
     ·exact⟨g,he,c1,c2,c3,c4,c5⟩
     ·obtain⟨g',q1,q2,q3,q4,q5,q6⟩:=i1 e' h';have hg:g'≠g:=λq=>hne e' h' (by rw[q1,q])
      rw[NA]at q2 q3;rw[(gd g' hg).1]at q4 q6;rw[(gd g' hg).2]at q5 q6;exact⟨g',q1,q2,q3,q4,q5,q6⟩
    ·rcases NO.1 h' with rfl|h'
     ·rw[he]at hg';cases hg';obtain⟨q1,q2⟩:=i5 g hne;rw[q1,q2,OG c1,OG c2];exact⟨rfl,rfl⟩
     ·have hg:g'≠g:=λq=>hne e' h' (by rw[hg',q])
      have:=i4 e' h' g' hg';rw[(gd g' hg).1,(gd g' hg).2]at this;exact this
    ·have hg:g≠g':=λq=>hg' e (Om ..) (by rw[he,q])
     obtain⟨q1,q2⟩:=i5 g' λe' h'=>hg' e' (NW _ h')
     rw[q1,q2,OH hg,OH hg];exact⟨rfl,rfl⟩
section
variable {A:Ann} {Gl:Nat->Option Go.Obj}
def FE (m:MapEntry):Int:=match m.key with| .int _ n=>n|_=>0
theorem FD {te:TE}:∀{es:List (Int×Option Nat)} {ms:List MapEntry},LR (RepM te (.ref 219)) es ms->(∀m∈ms,m.key=.int .i64 (FE m))/\ms.map FE=es.map (·.1)
 |[],[],_=>⟨λ_ h=>(by cases h),rfl⟩
 |e::es,m::ms,h=>by
  obtain⟨i1,i2⟩:=FD h.2;have hk:m.key=.int .i64 e.1:=h.1.1;have hk2:FE m=e.1:=by unfold FE;rw[hk]
  refine⟨λx hx=>?_,by rw[NV,NV,i2,hk2]⟩;rcases NO.1 hx with rfl|hx
  ·rw[hk2];exact hk
  ·exact i1 x hx
theorem Fj {fs:List (List (Int×Option Nat))}{r:Option Nat}{rr:List Int×List (List (Int×Option Nat))}{cos:List CoD}{args:List AV}(hco:∀a∈args,isCo a=false)(hargs:args++cos.map coAV=[.val false [.ref 29 r],coAV (dF fs)])(hu:xp r fs=some rr)
  {te:TE} {w:World} {Sb:Nat->Prop} {vs:Array Value} {bs:List (Option Nat)} (hbel:∀b,Sb b->b<w.heap.size) (hA:LR3 (Go.Eng.ArgRel te w Sb) args vs.toList bs) (hIn:oX A te w Sb bs cos):
  Calls Tryz.prog 112 vs w (λe w'=>∃v te' S' cos',e=.returned v/\Res te' (XOf te w Sb cos) (XOf te' w' S' cos') w w' Sb S' args bs ⟨[(false,.slice (.int .i64))],[.slice KF]⟩ rr v/\iH A te te' w w' Sb S' args bs cos cos' /\
    LR (λ(p:Bool×List S) (d:CoD)=>p.2=[.sl d.k d.xs]) ((lvs [K.slice (.int .i64),.slice KF] rr).drop (1+(ioKs args).length)) cos'):=by
 obtain⟨rfl,rfl⟩:=jn (l:=[dF fs]) rfl hco hargs;obtain⟨v,b,rfl,rfl,rfl,hv⟩:=vA hA;have hv:RefV te 29 r v:=aT hv;cases r with
 |none=>cases hu
 |some i=>
  obtain⟨bd,hi,rfl⟩:=hv;simp only[xp]at hu;cases hc:(Nat.ble (fs.getD i []).length 3&&nodI ((fs.getD i []).map (·.1)))with
  |false=>rw[hc]at hu;cases hu
  |true=>
   rw[hc]at hu;cases hu;simp only[NM]at hc;have hl3:=N3 hc.1;have hF:coHp [dF fs] 1050432=some (.col 29 0 .mp KF fs 0 none):=by simp[coHp]
   obtain⟨hlt,bm,ents,clock,h1,h2,h3,h4⟩:=qd hIn.r hF hi;have hlen:=h4.length;obtain⟨k1,k2⟩:=FD h4;refine(Fk bd bm ents clock w FE h1 h2 h3 k1 (by rw[<- O7];omega)).mono ?_;rintro e w' ⟨v,rfl,hb,ho⟩;rw[k2]at ho;have hlt2:∀g,v.ownBlock=some g->w.heap.size<=g/\g<w'.heap.size:=λg hg=>ho.lt g hg
   refine⟨v,te,λb=>Sb b\/v.ownBlock=some b,[dF fs],rfl,⟨#[v],rfl,⟨hb.os,hb.tape,hb.output,hb.size,λb hlt _=>hb.block b hlt⟩,λb hb=>.inl hb,λb hs=>?_,⟨Bz ho,trivial⟩,rfl⟩,
    iv hIn hbel hb (λb h=>.inl h) (λb hs=>?_),⟨rfl,trivial⟩⟩
   ·rcases hs with hs|hs
    ·exact⟨N1 (hbel b hs) hb.size,.inl hs⟩
    ·exact⟨(hlt2 b hs).2,.inr (.inl (hlt2 b hs).1)⟩
   ·rcases hs with hs|hs
    ·exact⟨N1 (hbel b hs) hb.size,.inl hs⟩
    ·exact⟨(hlt2 b hs).2,.inr (hlt2 b hs).1⟩
theorem sL {args:List AV}{cos:List CoD}{a b:AV}{l:List CoD}(ha:isCo a=false)(hb:isCo b=false)(hco:∀a∈args,isCo a=false)(h:args++cos.map coAV=a::b::l.map coAV):args=[a,b]/\cos=l:=by
 cases args with
 |nil=>
  cases cos with
  |nil=>simp at h
  |cons d r=>
   simp only[OJ,NV,NY]at h;rw[<- h.1]at ha;cases ha
 |cons x r=>
  simp only[N4,NY]at h;obtain⟨rfl,h⟩:=h;obtain⟨q1,q2⟩:=jn hb (λa h=>hco a (NW _ h)) h;rw[q1,q2];exact⟨rfl,rfl⟩
theorem J4 {te:TE}{w:World}{Sb:Nat->Prop}{a a2:AV}{vs:Array Value}{bs:List (Option Nat)}(h:LR3 (Go.Eng.ArgRel te w Sb) [a,a2] vs.toList bs):∃v v2 b b2,vs=#[v,v2]/\bs=[b,b2]/\Go.Eng.ArgRel te w Sb a v b/\Go.Eng.ArgRel te w Sb a2 v2 b2:=by
 obtain⟨l1,l2⟩:=h.length
 match hvs:vs.toList,bs,l1,l2,h with
 |[v,v2],[b,b2],_,_,h=>
  exact⟨v,v2,b,b2,by apply O5;simp[hvs],rfl,h.1,h.2.1⟩
theorem uv:∀{l:List Nat},nodN l=true->l.Nodup
 |[],_=>P7
 |x::r,h=>by
  simp only[nodN,NM,Oz]at h;refine Pn.2 ⟨λhx=>?_,uv h.2⟩;have:r.contains x=true:=by rw[Qf];exact⟨x,hx,by simp⟩
  rw[this]at h;cases h.1
theorem Ie {l:List Nat}(h:l.Nodup){i j x:Nat}(hi:l[i]?=some x)(hj:l[j]?=some x):i=j:=by
 obtain⟨h1,e1⟩:=NJ.1 hi;obtain⟨h2,e2⟩:=NJ.1 hj;have hp:=List.pairwise_iff_getElem.1 h;rcases PF i j with q|q|q
 ·exact(hp i j h1 h2 q (e1.trans e2.symm)).elim
 ·exact q
 ·exact(hp j i h2 h1 q (e2.trans e1.symm)).elim
theorem HN {fs:List (List (Int×Option Nat))}{left:List Int}{st:List Bool}{bl:List (List Int)}{sf:List Int}{r:Option Nat}{keep:Int}{rr:M0}{cos:List CoD}{args:List AV}(hco:∀a∈args,isCo a=false)(hargs:args++cos.map coAV=.val false [.ref 29 r]::.val false [.int .i64 keep]::(cs5 fs left st bl sf).map coAV)(hu:ER r keep fs left st bl sf=some rr)
  {te:TE} {w:World} {Sb:Nat->Prop} {vs:Array Value} {bs:List (Option Nat)} (hbel:∀b,Sb b->b<w.heap.size) (hA:LR3 (Go.Eng.ArgRel te w Sb) args vs.toList bs) (hIn:oX A te w Sb bs cos):
  Calls Tryz.prog 82 vs w (λe w'=>∃v te' S' cos',e=.returned v/\Res te' (XOf te w Sb cos) (XOf te' w' S' cos') w w' Sb S' args bs ⟨[],[.slice KF,.slice (.int .i64),.slice .bool,.slice (.slice (.int .u8)),.slice (.int .i64)]⟩ rr v/\iH A te te' w w' Sb S' args bs cos cos' /\
    LR (λ(p:Bool×List S) (d:CoD)=>p.2=[.sl d.k d.xs]) ((lvs [K.slice KF,.slice (.int .i64),.slice .bool,.slice (.slice (.int .u8)),.slice (.int .i64)] rr).drop (0+(ioKs args).length)) cos'):=by
 obtain⟨rfl,rfl⟩:=sL (l:=cs5 fs left st bl sf) rfl rfl hco hargs;obtain⟨v,v2,b,b2,rfl,rfl,⟨rfl,hv⟩,⟨rfl,hv2⟩⟩:=J4 hA;have hv:RefV te 29 r v:=aT hv;have hv2:v2=.int .i64 keep/\okI .i64 keep:=aT hv2;obtain⟨rfl,_⟩:=hv2;cases r with
 |none=>cases hu
 |some i=>
  obtain⟨bd,hi,rfl⟩:=hv;simp only[ER]at hu;cases hc:(nodN ((fs.getD i []).map (λe=>e.2.getD 0))&&Nat.blt i st.length&&Nat.blt i left.length)with
  |false=>rw[hc]at hu;cases hu
  |true=>
   rw[hc]at hu;simp only[NH]at hu;split at hu
   rotate_left
   ·cases hu
   rename_i p hp;cases hu;simp only[NM]at hc;obtain⟨⟨hnod,_⟩,_⟩:=hc;obtain⟨s1,s2,s3,s4,s5⟩:=tU keep _ _ _ p hp hnod;have hR:=hIn.r;have hF:coHp (cs5 fs left st bl sf) 1050432=some (.col 29 0 .mp KF fs 0 none):=by simp[coHp]
   obtain⟨hlt,bm,ents,clock,h1,h2,h3,h4⟩:=qd hR hF hi;have hSt:(coC te w Sb (cs5 fs left st bl sf)).hp 1050435=some (.col 29 3 .dat .bool st 0 none):=by simp[coC,coHp]
   have hBy:(coC te w Sb (cs5 fs left st bl sf)).hp 1062592=some (.col 219 0 .own (.slice (.int .u8)) bl 0 none):=by simp[coC,coHp]
   have hSf:(coC te w Sb (cs5 fs left st bl sf)).hp 1062593=some (.col 219 1 .dat (.int .i64) sf 0 none):=by simp[coC,coHp]
   have h29:cO (coC te w Sb (cs5 fs left st bl sf)) 29:=⟨1050432,0,.mp,KF,fs,0,none,hF⟩
   have h219:cO (coC te w Sb (cs5 fs left st bl sf)) 219:=⟨1062592,0,.own,.slice (.int .u8),bl,0,none,hBy⟩
   obtain⟨_,_,darr,⟨dT,dfz,hd1,hd2⟩,_,hd3⟩:=hR.at hSt hi;have hd1:w.heap[bd]?=some (.cells darr dT dfz):=hd1;have hd4:4<=darr.size:=hd3;have hd0:darr[0]?=some (.map (some bm)):=by rw[cell_of_row w bd 0 _ _ _ hd1]at h1;exact h1
   have hent:∀x:MapEntry,∃d:Nat×Nat×Nat×Array Value×TypeId×(Nat×Nat)×Option Addr×Nat,x∈ents.toList->ents.toList[d.1]?=some x/\((fs.getD i []).map λe=>e.2.getD 0)[d.1]?=some d.2.1/\RefV te 219 (some d.2.1) x.val/\te.ι 219 d.2.1=some d.2.2.1/\2<=d.2.2.2.1.size/\0<=sf.getD d.2.1 0 /\
     EnA w x d.2.2.1 d.2.2.2.1 d.2.2.2.2.1 d.2.2.2.2.2.1 d.2.2.2.2.2.2.1 (bl.getD d.2.1 []).length d.2.2.2.2.2.2.2 (Int.toNat (sf.getD d.2.1 0)):=by
    intro x;by_cases hx:x∈ents.toList
    rotate_left
    ·exact⟨(0,0,0,#[],0,(0,0),none,0),λh=>(hx h).elim⟩
    obtain⟨j,hj⟩:=Oo.1 hx;have hj1:=(NJ.1 hj).1;have hlen:=h4.length;obtain⟨e,he⟩:∃e,(fs.getD i [])[j]?=some e:=⟨_,NT (by omega)⟩
    obtain⟨m,hm1,hm2⟩:=h4.get j e he;rw[hj]at hm1;cases hm1;obtain⟨g,g1,g2,g3,g4,g5,g6⟩:=s1 e (NX he);have hrv:RefV te 219 e.2 x.val:=hm2.2;rw[g1]at hrv;obtain⟨bf,q1,q2⟩:=id hrv;obtain⟨_,_,arr,⟨T,fz,r1,r2⟩,_,r3⟩:=hR.at hSf q1;have r3:2<=arr.size:=r3;have r1:w.heap[bf]?=some (.cells arr T fz):=r1;obtain⟨vs,t1,t2⟩:=hR.dat 1062593 219 1 (.int .i64) sf 0 none hSf g _ bf arr (getD_some 0 g3) q1 ⟨T,fz,r1⟩;obtain⟨rfl,_⟩:=t1;have c1:arr[1]?=some (.int .i64 (sf.getD g 0)):=t2 0 _ rfl;obtain⟨t3,t4⟩:=hR.own 1062592 219 0 (.int .u8) bl 0 none hBy g _ (getD_some [] g2);have c0:arr[0]?=some (te.cur 1062592 g):=t4 (by simp) bf arr q1 ⟨T,fz,r1⟩;have hrow:∃a cap,te.cur 1062592 g=.slice a (bl.getD g []).length cap/\(bl.getD g []).length<=cap/\(a=none->cap=0):=by
     have t3:bR te w Sb (te.ow 1062592 g) (.int .u8) (bl.getD g []) (te.cur 1062592 g):=t3;unfold bR at t3;split at t3
     ·obtain⟨u1,u2⟩:=t3;have u2:bl.getD g []=[]:=u2;rw[u1,u2];exact⟨none,0,rfl,NG _,λ_=>rfl⟩
     ·obtain⟨cap,arr',a,u1,u2,_⟩:=t3;rw[u1];exact⟨some a,cap,rfl,u2,λh=>by cases h⟩
    obtain⟨a,cap,u1,u2,u3⟩:=hrow;rw[u1]at c0;exact⟨(j,g,bf,arr,T,fz,a,cap),λ_=>⟨hj,by rw[Ot,he];simp[g1],hrv,q1,r3,g5,q2,r1,r2,c0,by rw[Qt g5];exact c1,(by show Int.toNat (sf.getD g 0)<=(bl.getD g []).length;omega),u2,(by show(bl.getD g []).length<=_;omega),u3⟩⟩
   obtain⟨f,hf⟩:=Classical.skolem.1 hent;clear hent;have gid:∀g g' b,te.ι 219 g=some b->te.ι 219 g'=some b->g=g':=λg g' b h h'=>by
    have:=hR.one (.man 219 g) (.man 219 g') b ⟨h219,h⟩ ⟨h219,h'⟩;cases this;rfl
   have hkk:∀x∈ents.toList,ma keep ((bl.getD (f x).2.1 []).length:Nat) (Int.toNat (sf.getD (f x).2.1 0):Nat)=((Int.toNat (ma keep ((bl.getD (f x).2.1 []).length:Int) (sf.getD (f x).2.1 0)):Nat):Int)/\Int.toNat (ma keep ((bl.getD (f x).2.1 []).length:Int) (sf.getD (f x).2.1 0))<=(bl.getD (f x).2.1 []).length:=λx hx=>by
    obtain⟨f1,f2,f3,f4,f5,f6,f7⟩:=hf x hx;obtain⟨k1,hk1,hk2,hk3,_⟩:=keptN_eq keep (bl.getD (f x).2.1 []).length (Int.toNat (sf.getD (f x).2.1 0)) f7.sn f7.nm;rw[Qt f6]at hk1 ⊢;rw[hk1];exact⟨rfl,by simpa using hk3⟩
   refine(Ko bd bm ents clock w keep darr dT dfz hd1 hd2 hd0 hd4 h2 h3 (λx=>(f x).2.2.1) (λx=>(f x).2.2.2.1) (λx=>(f x).2.2.2.2.1) (λx=>(f x).2.2.2.2.2.1) (λx=>(f x).2.2.2.2.2.2.1) (λx=>(bl.getD (f x).2.1 []).length) (λx=>(f x).2.2.2.2.2.2.2) (λx=>Int.toNat (sf.getD (f x).2.1 0))
    (λx=>Int.toNat (ma keep ((bl.getD (f x).2.1 []).length:Int) (sf.getD (f x).2.1 0))) (λx hx=>⟨(hf x hx).2.2.2.2.2.2,(hkk x hx).1⟩) (λx hx e=>?_) (λx hx y hy e=>?_)).mono ?_
   ·have h9:=(hf x hx).2.2.2.1;have e:(f x).2.2.1=bd:=e;rw[e]at h9;have:=hR.one (.man 219 (f x).2.1) (.man 29 i) bd ⟨h219,h9⟩ ⟨h29,hi⟩;cases this
   ·have e:(f x).2.2.1=(f y).2.2.1:=e;obtain⟨x1,x2,_,x4,_⟩:=hf x hx;obtain⟨y1,y2,_,y4,_⟩:=hf y hy;have hg:=gid _ _ _ x4 (by rw[e];exact y4);rw[<- hg]at y2;have hj:=Ie (uv hnod) x2 y2;rw[<- hj,x1]at y1;cases y1;rfl
   rintro e w' ⟨rfl,⟨o1,o2,o3,o4⟩,hfile,hdisk,hoth⟩;have hcut:Cut te w w' ((fs.getD i []).map λe=>e.2.getD 0) bl p.1 sf p.2 (λg=>Int.toNat (ma keep ((bl.getD g []).length:Int) (sf.getD g 0))):=by
    have at_:∀g∈(fs.getD i []).map (λe=>e.2.getD 0),∃x∈ents.toList,(f x).2.1=g:=λg hg=>by
     obtain⟨e,he,rfl⟩:=N9.1 hg;obtain⟨j,hj⟩:=Oo.1 he;obtain⟨m,hm1,hm2⟩:=h4.get j e hj;have hm:=NX hm1;obtain⟨g,g1,_⟩:=s1 e he;have hrv:RefV te 219 e.2 m.val:=hm2.2;rw[g1]at hrv;obtain⟨b1,q1,q2⟩:=hrv;obtain⟨b2,q3,q4⟩:=(hf m hm).2.2.1;rw[q2]at q4;simp only[Value.pointer.injEq,Nz,Addr.mk.injEq,OV]at q4;subst q4;exact⟨m,hm,by rw[g1];exact gid _ _ _ q3 q1⟩
    refine⟨λg hg=>?_,λg hg=>?_,s2,s3,λg hg=>?_,λg hg=>?_⟩
    ·obtain⟨x,hx,rfl⟩:=at_ g hg;obtain⟨f1,f2,f3,f4,f5,f6,f7⟩:=hf x hx;exact⟨_,_,_,_,_,_,_,f4,f7.blk,f7.c0,f5,(hkk x hx).2,hfile x hx⟩
    ·obtain⟨x,hx,rfl⟩:=at_ g hg;have:=(hkk x hx).2;have h9:=(hf x hx).2.2.2.2.2.2.nm;omega
    ·obtain⟨x,hx,rfl⟩:=at_ g hg;obtain⟨e,he,e2⟩:=N9.1 hg;obtain⟨g',g1,_⟩:=s1 e he;rw[g1]at e2;have e2:g'=(f x).2.1:=e2;obtain⟨z1,z2⟩:=s4 e he g' g1;rw[e2]at z1 z2;refine⟨z1,z2.trans ?_⟩;have:=(hkk x hx).1;rw[Qt (hf x hx).2.2.2.2.2.1]at this;exact congrArg some this
    ·exact s5 g λe he q=>hg (N9.2 ⟨e,he,by rw[q];rfl⟩)
   have hoth':∀b,b<w.heap.size->b≠bd->(∀g∈(fs.getD i []).map (λe=>e.2.getD 0),te.ι 219 g≠some b)->w'.heap[b]?=w.heap[b]?:=λb hb1 hb2 hb3=>
    hoth b hb1 hb2 λx hx q=>hb3 (f x).2.1 (NX (hf x hx).2.1) (by rw[q];exact(hf x hx).2.2.2.1)
   have hman:=Bs hbel hR hi hcut hd1 hd4 hdisk o4 hoth';refine⟨_,teN te w',Sb,cs5 fs (left.set i (-1)) (st.set i false) p.1 p.2,rfl,⟨#[],rfl,⟨o1,o2,o3,o4,λb hlt hb=>hoth' b hlt (λq=>hb (.inr ⟨.man 29 i,h29,by rw[q];exact hi⟩)) (λg _ q=>hb (.inr ⟨.man 219 g,h219,q⟩))⟩,λb hb=>hb,λb hs=>⟨N1 (hbel b hs) o4,.inl hs⟩,trivial,rfl⟩,
    ⟨⟨⟨rfl,rfl,rfl,rfl,rfl⟩,⟨rfl,rfl,rfl,rfl,rfl⟩,⟨rfl,rfl,rfl,rfl,rfl⟩,⟨rfl,rfl,rfl,rfl,rfl⟩,⟨rfl,rfl,rfl,rfl,rfl⟩,trivial⟩,hman.frame λb hb=>hb.imp False.elim id,λl b _ j k x hj=>?_⟩,⟨rfl,rfl,rfl,rfl,rfl,trivial⟩⟩
   match j,hj with
   |0,hj=>simp at hj
   |1,hj=>simp at hj
   |j+2,hj=>simp at hj
theorem A5 {args:List AV}{cos:List CoD}{a b c:AV}{l:List CoD}(ha:isCo a=false)(hb:isCo b=false)(hc:isCo c=false)(hco:∀a∈args,isCo a=false)(h:args++cos.map coAV=a::b::c::l.map coAV):args=[a,b,c]/\cos=l:=by
 cases args with
 |nil=>
  cases cos with
  |nil=>simp at h
  |cons d r=>
   simp only[OJ,NV,NY]at h;rw[<- h.1]at ha;cases ha
 |cons x r=>
  simp only[N4,NY]at h;obtain⟨rfl,h⟩:=h;obtain⟨q1,q2⟩:=sL hb hc (λa h=>hco a (NW _ h)) h;rw[q1,q2];exact⟨rfl,rfl⟩
theorem Es {te:TE}{w:World}{Sb:Nat->Prop}{a a2 a3:AV}{vs:Array Value}{bs:List (Option Nat)}(h:LR3 (Go.Eng.ArgRel te w Sb) [a,a2,a3] vs.toList bs):∃v v2 v3 b b2 b3,vs=#[v,v2,v3]/\bs=[b,b2,b3]/\Go.Eng.ArgRel te w Sb a v b/\Go.Eng.ArgRel te w Sb a2 v2 b2/\Go.Eng.ArgRel te w Sb a3 v3 b3:=by
 obtain⟨l1,l2⟩:=h.length
 match hvs:vs.toList,bs,l1,l2,h with
 |[v,v2,v3],[b,b2,b3],_,_,h=>
  exact⟨v,v2,v3,b,b2,b3,by apply O5;simp[hvs],rfl,h.1,h.2.1,h.2.2.1⟩
theorem xa {α:Type}(l:List α)(i:Nat)(z:α)(h:i<l.length){x:α}(hx:l.getD i z=x):l.set i x=l:=by
 rw[NP,NT h]at hx;have hx:l[i]=x:=hx;rw[<- hx,PA]
theorem xb (a:Array Value)(i:Nat)(v:Value)(h:a[i]?=some v):a.setIfInBounds i v=a:=by
 apply Array.ext_getElem?;intro j;rw[O1];split
 ·rename_i e;subst e;split
  ·exact h.symm
  ·rename_i q;rw[Ow (by omega)]
 ·rfl
theorem Lg {fs:List (List (Int×Option Nat))}{left:List Int}{st:List Bool}{bl:List (List Int)}{sf:List Int}{r:Option Nat}{nm n:Int}{rr:CutR}{cos:List CoD}{args:List AV}(hco:∀a∈args,isCo a=false)(hargs:args++cos.map coAV=.val false [.ref 29 r]::.val false [.int .i64 nm]::.val false [.int .i64 n]::(cs5 fs left st bl sf).map coAV)(hu:cutX r nm n fs left st bl sf=some rr)
  {te:TE} {w:World} {Sb:Nat->Prop} {vs:Array Value} {bs:List (Option Nat)} (hbel:∀b,Sb b->b<w.heap.size) (hA:LR3 (Go.Eng.ArgRel te w Sb) args vs.toList bs) (hIn:oX A te w Sb bs cos):
  Calls Tryz.prog 114 vs w (λe w'=>∃v te' S' cos',e=.returned v/\Res te' (XOf te w Sb cos) (XOf te' w' S' cos') w w' Sb S' args bs ⟨[(false,.err)],[.slice KF,.slice (.int .i64),.slice .bool,.slice (.slice (.int .u8)),.slice (.int .i64)]⟩ rr v/\iH A te te' w w' Sb S' args bs cos cos' /\
    LR (λ(p:Bool×List S) (d:CoD)=>p.2=[.sl d.k d.xs]) ((lvs [K.err,.slice KF,.slice (.int .i64),.slice .bool,.slice (.slice (.int .u8)),.slice (.int .i64)] rr).drop (1+(ioKs args).length)) cos'):=by
 obtain⟨rfl,rfl⟩:=A5 (l:=cs5 fs left st bl sf) rfl rfl rfl hco hargs;obtain⟨v,v2,v3,b,b2,b3,rfl,rfl,⟨rfl,hv⟩,⟨rfl,hv2⟩,⟨rfl,hv3⟩⟩:=Es hA;have hv:RefV te 29 r v:=aT hv;have hv2:v2=.int .i64 nm/\okI .i64 nm:=aT hv2;have hv3:v3=.int .i64 n/\okI .i64 n:=aT hv3;obtain⟨rfl,_⟩:=hv2;obtain⟨rfl,_⟩:=hv3;cases r with
 |none=>cases hu
 |some i=>
  obtain⟨bd,hi,rfl⟩:=hv;simp only[cutX]at hu;split at hu
  rotate_left
  ·cases hu
  rename_i g hg;cases hc:(Nat.blt i st.length&&(Nat.blt i left.length&&(!(st.getD i false)&&(decide (left.getD i 0=-1)&&(Nat.blt g bl.length&&(Nat.blt g sf.length&&(Nat.ble (bl.getD g []).length 1000000&&(decide (0<=n)&&decide (n<=((bl.getD g []).length:Int))))))))))with
  |false=>rw[hc]at hu;cases hu
  |true=>
   rw[hc]at hu;cases hu;simp only[NM,N0,Oz]at hc;obtain⟨k1,k2,k3,k4,k5,k6,k7,k8,k9⟩:=hc;have k1:i<st.length:=N3 k1;have k2:i<left.length:=N3 k2;have k5:g<bl.length:=N3 k5;have k6:g<sf.length:=N3 k6;have k7:=N3 k7;obtain⟨k,rfl⟩:=Oj k8;have hR:=hIn.r;have hF:coHp (cs5 fs left st bl sf) 1050432=some (.col 29 0 .mp KF fs 0 none):=by simp[coHp]
   obtain⟨hlt,bm,ents,clock,h1,h2,h3,h4⟩:=qd hR hF hi;have hSt:(coC te w Sb (cs5 fs left st bl sf)).hp 1050435=some (.col 29 3 .dat .bool st 0 none):=by simp[coC,coHp]
   have hLe:(coC te w Sb (cs5 fs left st bl sf)).hp 1050434=some (.col 29 2 .dat (.int .i64) left 0 none):=by simp[coC,coHp]
   have hBy:(coC te w Sb (cs5 fs left st bl sf)).hp 1062592=some (.col 219 0 .own (.slice (.int .u8)) bl 0 none):=by simp[coC,coHp]
   have hSf:(coC te w Sb (cs5 fs left st bl sf)).hp 1062593=some (.col 219 1 .dat (.int .i64) sf 0 none):=by simp[coC,coHp]
   have h29:cO (coC te w Sb (cs5 fs left st bl sf)) 29:=⟨1050432,0,.mp,KF,fs,0,none,hF⟩
   have h219:cO (coC te w Sb (cs5 fs left st bl sf)) 219:=⟨1062592,0,.own,.slice (.int .u8),bl,0,none,hBy⟩
   obtain⟨_,_,darr,⟨dT,dfz,hd1,hd2⟩,_,hd3⟩:=hR.at hSt hi;have hd1:w.heap[bd]?=some (.cells darr dT dfz):=hd1;have hd4:4<=darr.size:=hd3;obtain⟨vs3,t1,t2⟩:=hR.dat 1050435 29 3 .bool st 0 none hSt i _ bd darr (getD_some false k1) hi ⟨dT,dfz,hd1⟩;have t1:vs3=[.bool (st.getD i false)]:=t1;subst t1;have q3:darr[3]?=some (.bool false):=by have:=t2 0 _ rfl;rw[k3]at this;exact this
   obtain⟨vs2,t3,t4⟩:=hR.dat 1050434 29 2 (.int .i64) left 0 none hLe i _ bd darr (getD_some 0 k2) hi ⟨dT,dfz,hd1⟩;obtain⟨rfl,_⟩:=t3;have q2:darr[2]?=some (.int .i64 (-1)):=by have:=t4 0 _ rfl;rw[k4]at this;exact this
   obtain⟨bf,e1,hlk⟩:=Nf h2 h4 hg;obtain⟨_,_,arr,⟨T,fz,r1,r2⟩,_,r3⟩:=hR.at hSf e1;have r3:2<=arr.size:=r3;have r1:w.heap[bf]?=some (.cells arr T fz):=r1;obtain⟨t5,t6⟩:=hR.own 1062592 219 0 (.int .u8) bl 0 none hBy g _ (getD_some [] k5);have c0:arr[0]?=some (te.cur 1062592 g):=t6 (by simp) bf arr e1 ⟨T,fz,r1⟩;have hrow:∃a cap,te.cur 1062592 g=.slice a (bl.getD g []).length cap/\(bl.getD g []).length<=cap:=by
    have t5:bR te w Sb (te.ow 1062592 g) (.int .u8) (bl.getD g []) (te.cur 1062592 g):=t5;unfold bR at t5;split at t5
    ·obtain⟨u1,u2⟩:=t5;have u2:bl.getD g []=[]:=u2;rw[u1,u2];exact⟨none,0,rfl,NG _⟩
    ·obtain⟨cap,arr',a,u1,u2,_⟩:=t5;rw[u1];exact⟨some a,cap,rfl,u2⟩
   obtain⟨a,cap,u1,u2⟩:=hrow;rw[u1]at c0;have hkn:k<=(bl.getD g []).length:=by omega
   have hbne:bf≠bd:=λe=>by
    subst e;have:=hR.one (.man 219 g) (.man 29 i) _ ⟨h219,e1⟩ ⟨h29,hi⟩;cases this
   refine(Mv bd bm bf w nm k h1 (by rw[cell_of_row w bd 2 _ _ _ hd1];exact q2) (by rw[cell_of_row w bd 3 _ _ _ hd1];exact q3) hlk a (bl.getD g []).length cap (by rw[cell_of_row w bf 0 _ _ _ r1];exact c0) ⟨_,by rw[cell_of_row w bf 1 _ _ _ r1];exact OB (by omega)⟩ (fi w bf 0 _ _ _ r1 r2 (by omega)) (fi w bf 1 _ _ _ r1 r2 (by omega)) hkn u2).mono ?_;rintro e w' ⟨rfl,rfl⟩;have hfile:((w.setCell ⟨bf,0,none⟩ (.slice a k cap)).setCell ⟨bf,1,none⟩ (.int .i64 k)).heap[bf]?=some (uN arr T fz a cap k):=fq _ _ _ _ _ _ _ (fq _ _ _ _ _ _ _ r1);have hoth:∀b,b≠bf->((w.setCell ⟨bf,0,none⟩ (.slice a k cap)).setCell ⟨bf,1,none⟩ (.int .i64 k)).heap[b]?=w.heap[b]?:=λb hb=>by rw[heap_setCell_other _ _ _ _ hb,heap_setCell_other _ _ _ _ hb]
   have hsz:w.heap.size<=((w.setCell ⟨bf,0,none⟩ (.slice a k cap)).setCell ⟨bf,1,none⟩ (.int .i64 k)).heap.size:=by simp[World.setCell]
   generalize hw':(w.setCell ⟨bf,0,none⟩ (.slice a k cap)).setCell ⟨bf,1,none⟩ (.int .i64 k)=w' at hfile hoth hsz ⊢;have hcut:Cut te w w' [g] bl (bl.set g ((bl.getD g []).take k)) sf (sf.set g (k:Int)) (λ_=>k):=by
    refine⟨λg' hg'=>?_,λg' hg'=>by omega,NA,NA,λg' hg'=>?_,λg' hg'=>?_⟩
    ·rw[N5.1 hg'];exact⟨_,_,_,_,_,_,_,e1,r1,c0,r3,hkn,hfile⟩
    ·rw[N5.1 hg'];exact⟨OG k5,OG k6⟩
    ·have:g≠g':=λe=>hg' (by rw[e];simp)
     exact⟨OH this,OH this⟩
   have hoth':∀b,b<w.heap.size->b≠bd->(∀g'∈[g],te.ι 219 g'≠some b)->w'.heap[b]?=w.heap[b]?:=λb _ _ h=>hoth b λe=>h g (by simp) (by rw[e];exact e1)
   have hman:=Bs hbel hR hi hcut hd1 hd4 (by rw[hoth bd (Ne.symm hbne),hd1,xb darr 3 _ q3,xb darr 2 _ q2]) hsz hoth';rw[xa left i 0 k2 k4,xa st i false k1 k3]at hman;have hos:w'.os=w.os/\w'.tape=w.tape/\w'.output=w.output:=by rw[<- hw'];exact⟨rfl,rfl,rfl⟩
   refine⟨_,teN te w',Sb,cs5 fs left st (bl.set g ((bl.getD g []).take k)) (sf.set g (k:Int)),rfl,⟨#[.nilIface],rfl,⟨hos.1,hos.2.1,hos.2.2,hsz,λb hlt hb=>hoth b (λq=>hb (.inr ⟨.man 219 g,h219,by rw[q];exact e1⟩))⟩,λb hb=>hb,λb hs=>⟨N1 (hbel b hs) hsz,.inl hs⟩,⟨⟨_,rfl,rfl⟩,trivial⟩,rfl⟩,
    ⟨⟨⟨rfl,rfl,rfl,rfl,rfl⟩,⟨rfl,rfl,rfl,rfl,rfl⟩,⟨rfl,rfl,rfl,rfl,rfl⟩,⟨rfl,rfl,rfl,rfl,rfl⟩,⟨rfl,rfl,rfl,rfl,rfl⟩,trivial⟩,hman.frame λb hb=>hb.imp False.elim id,λl b _ j k x hj=>?_⟩,⟨rfl,rfl,rfl,rfl,rfl,trivial⟩⟩
   match j,hj with
   |0,hj=>simp at hj
   |1,hj=>simp at hj
   |2,hj=>simp at hj
   |j+3,hj=>simp at hj
theorem xtox_ok (hnum:∀(te:TE)(w:World)(Sb:Nat->Prop)(e:Option Int),te.te=A.te->Glob Gl Sb w->Calls Tryz.prog 36 #[errV te e] w λx w'=>x=.returned (.int .i64 (e.getD 0))/\Below w.heap.size w w'):Hi Tryz.prog A Gl (XTox 36 83 139 112 82 114):=by
 intro sg f args cos rr hco hr
 replace hr:(XTox 36 83 139 112 82 114 sg f (args++cos.map coAV)).join=some rr:=hr
 generalize hal:args++cos.map coAV=al at hr;unfold XTox at hr;split at hr
 ·rename_i e;obtain⟨rfl,rfl⟩:=jn (l:=[]) (a:=.val false [.err e]) rfl hco hal;cases hn:Nat.beq f 36 with
  |false=>rw[hn]at hr;cases hr
  |true=>
   have:=NB hn;subst this;rw[hn]at hr;have hr:some (e.getD 0)=some rr:=hr;cases hr;refine⟨DK 36 (by kernel_rfl),λte w Sb vs bs hte hG hbel hA hbs hinj hIn=>?_⟩;obtain⟨v,b,rfl,rfl,rfl,hv⟩:=vA hA;have hv:v=errV te e:=aT hv;subst hv;refine(hnum te w Sb e hte hG).mono ?_;rintro x w' ⟨rfl,hb⟩;refine⟨_,te,Sb,[],rfl,⟨#[.int .i64 (e.getD 0)],rfl,⟨hb.os,hb.tape,hb.output,hb.size,λb hlt _=>hb.block b hlt⟩,λb hb=>hb,λb hs=>⟨N1 (hbel b hs) hb.size,.inl hs⟩,⟨⟨_,rfl,rfl,rfl⟩,trivial⟩,rfl⟩,
    iv hIn hbel hb (λb h=>h) (λb hs=>⟨N1 (hbel b hs) hb.size,.inl hs⟩),trivial⟩
 ·rename_i k ps;cases hn:Nat.beq f 83 with
  |false=>rw[hn]at hr;cases hr
  |true=>
   have:=NB hn;subst this;rw[hn]at hr;simp only[NH]at hr;split at hr
   ·rename_i l hl;unfold cst at hl;split at hl
    ·rename_i hk;subst hk;cases hl;cases hb:Nat.ble ps.length 1000000 with
     |false=>rw[hb]at hr;cases hr
     |true=>
      rw[hb]at hr;have hr:some (fG ps)=some rr:=hr;cases hr;exact⟨DK 83 (by kernel_rfl),λte w Sb vs bs hte hG hbel hA hbs hinj hIn=>Ms hco hal (N3 hb) hbel hA hIn⟩
    ·cases hl
   ·cases hr
 ·rename_i r fs bl;cases hn:Nat.beq f 139 with
  |false=>rw[hn]at hr;cases hr
  |true=>
   have:=NB hn;subst this;rw[hn]at hr;have hr:zh r fs bl=some rr:=hr;exact⟨DK 139 (by kernel_rfl),λte w Sb vs bs hte hG hbel hA hbs hinj hIn=>Hs hco hal hr hbel hA hIn⟩
 ·rename_i r fs;cases hn:Nat.beq f 112 with
  |false=>rw[hn]at hr;cases hr
  |true=>
   have:=NB hn;subst this;rw[hn]at hr;have hr:xp r fs=some rr:=hr;exact⟨DK 112 (by kernel_rfl),λte w Sb vs bs hte hG hbel hA hbs hinj hIn=>Fj hco hal hr hbel hA hIn⟩
 ·rename_i r keep fs left st bl sf;cases hn:Nat.beq f 82 with
  |false=>rw[hn]at hr;cases hr
  |true=>
   have:=NB hn;subst this;rw[hn]at hr;have hr:ER r keep fs left st bl sf=some rr:=hr;exact⟨DK 82 (by kernel_rfl),λte w Sb vs bs hte hG hbel hA hbs hinj hIn=>HN hco hal hr hbel hA hIn⟩
 ·rename_i r nm n fs left st bl sf;cases hn:Nat.beq f 114 with
  |false=>rw[hn]at hr;cases hr
  |true=>
   have:=NB hn;subst this;rw[hn]at hr;have hr:cutX r nm n fs left st bl sf=some rr:=hr;exact⟨DK 114 (by kernel_rfl),λte w Sb vs bs hte hG hbel hA hbs hinj hIn=>Lg hco hal hr hbel hA hIn⟩
 ·cases hr
end
end Go.Proofs.Due
