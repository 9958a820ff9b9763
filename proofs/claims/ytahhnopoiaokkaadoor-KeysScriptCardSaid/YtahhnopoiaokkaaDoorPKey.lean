/- The laws KeysScript and KeysFirst of layer 11. Conditions: the statements' own. -/
import Derived.Test.YtahhnopoiaokkaaDoorPKeyQ
set_option linter.all false
set_option linter.unusedVariables false
set_option linter.unusedSimpArgs false
set_option linter.deprecated false
namespace Go.Eng.Key
open Go.RowKit Go.Eng
set_option maxRecDepth 100000
abbrev sBo : Sig := ⟨[(false, .bool)], []⟩
abbrev sIn : Sig := ⟨[(false, .int .i64)], []⟩
abbrev I : K := .int .i64
abbrev KL : K := .slice KKnown
abbrev sRe : Sig := ⟨[(false, KReply), (false, .bool)], []⟩
abbrev sKe : Sig := ⟨[(false, .slice KKnown), (false, .err)], []⟩
abbrev sRq : Sig := ⟨[(false, KRequest)], []⟩
abbrev d0 : TKnown := (((0 : Int), (0 : Int), (0 : Int), (0 : Int), (0 : Int), (0 : Int), (0 : Int)), ((0 : Int), (0 : Int)), false)
theorem awake_ev : Ev1 (fun k => CF k sBo n_law11_awake []) true := Ev1.of_rfl 40 (fun k => by kernel_rfl)
theorem num_ev (e : Option Int) : Ev1 (fun k => CF k sIn n_api_Number [inj .err e]) (e.getD 0) := Ev1.step (fun k => f_api_Number k e) (Ev1.now _)
/-! A key's place. -/
def fndI (key : Int) : List Int → Option Nat
  | [] => none
  | k :: r => if k = key then some 0 else (fndI key r).map (· + 1)
def keysOf (ks : List TKnown) : List Int := ks.map fun k => k.1.1
def fnd (key : Int) (ks : List TKnown) : Option Nat := fndI key (keysOf ks)
def num : Option Nat → Int
  | none => -1
  | some i => (i : Int)
theorem fndI_some {key : Int} : ∀ {l : List Int} {i : Nat}, fndI key l = some i → ∃ h : i < l.length, l[i] = key
  | [], i, h => by cases h
  | k :: r, i, h => by
    unfold fndI at h
    split at h
    · rename_i e; cases h; exact ⟨by simp, e⟩
    · cases hq : fndI key r with
      | none => rw [hq] at h; cases h
      | some j =>
        rw [hq] at h; cases h
        obtain ⟨h1, h2⟩ := fndI_some hq
        exact ⟨by simp; omega, by simpa using h2⟩
theorem fndI_app (key : Int) (l : List Int) (x : Int) : fndI key (l ++ [x]) = match fndI key l with | some i => some i | none => if x = key then some l.length else none := by
  induction l with
  | nil => simp only [List.nil_append, fndI]; split <;> rfl
  | cons k r ih =>
    rw [List.cons_append]
    unfold fndI
    split
    · rfl
    · rw [ih]
      cases fndI key r with
      | some i => rfl
      | none => dsimp only; split <;> simp
theorem fnd_some {key : Int} {ks : List TKnown} {i : Nat} (h : fnd key ks = some i) : ∃ h : i < ks.length, ks[i].1.1 = key := by
  obtain ⟨h1, h2⟩ := fndI_some h
  have h3 : i < ks.length := by simpa [keysOf] using h1
  exact ⟨h3, by simpa [keysOf] using h2⟩
theorem keysOf_set (ks : List TKnown) (i : Nat) (x : TKnown) (h : i < ks.length) (hx : x.1.1 = ks[i].1.1) : keysOf (ks.set i x) = keysOf ks := by
  unfold keysOf
  rw [List.map_set, hx]
  have : i < (ks.map fun k => k.1.1).length := by simpa using h
  conv => lhs; rw [show ks[i].1.1 = (ks.map fun k => k.1.1)[i] by simp]
  rw [List.set_getElem_self]
theorem getK (l : List TKnown) (i : Nat) (h : i < l.length) : l.getD (Int.toNat (i : Int)) d0 = l[i] := by rw [Int.toNat_natCast]; exact getD_at l i _ h
theorem find_l (key : Int) (ks : List TKnown) (hl : ks.length ≤ 140737488351232) : ∀ (d i : Nat), i + d = ks.length → Ev2 (fun k m => h_keys_Find k m key ks (ks.length : Int) (i : Int)) (match fndI key ((keysOf ks).drop i) with | none => -1 | some j => ((i + j : Nat) : Int))
  | 0, i, h => by
    refine Ev2.step (fun k m => h_keys_Find_s k m key ks (ks.length : Int) (i : Int)) (Ev2.negD (by omega) ?_)
    rw [List.drop_of_length_le (by unfold keysOf; rw [List.length_map]; omega)]
    exact Ev2.now _
  | d + 1, i, h => by
    have hlt : i < ks.length := by omega
    have hk : i < (keysOf ks).length := by unfold keysOf; rw [List.length_map]; omega
    have ek : (keysOf ks)[i] = ks[i].1.1 := by simp [keysOf]
    have ih := find_l key ks hl d (i + 1) (by omega)
    refine Ev2.step (fun k m => h_keys_Find_s k m key ks (ks.length : Int) (i : Int)) (Ev2.posD (by omega) (Ev2.pos (inb_true (by omega) (by omega)) ?_))
    have eg := getK ks i hlt
    unfold d0 at eg
    rw [eg, List.drop_eq_getElem_cons hk, ek, wnat (by omega)]
    unfold fndI
    by_cases hq : ks[i].1.1 = key
    · rw [if_pos hq]; exact Ev2.posD hq (Ev2.now _)
    · rw [if_neg hq]
      refine Ev2.negD hq ?_
      cases hf : fndI key ((keysOf ks).drop (i + 1)) with
      | none => rw [hf] at ih; exact ih
      | some j =>
        rw [hf] at ih
        show Ev2 _ (((i + (j + 1) : Nat)) : Int)
        rw [show i + (j + 1) = i + 1 + j by omega]
        exact ih
theorem find_ev (ks : List TKnown) (key : Int) (hl : ks.length ≤ 140737488351232) : Ev1 (fun k => CF k sIn n_keys_Find [inj KL ks, inj I key]) (num (fnd key ks)) := by
  refine Ev1.step (fun k => f_keys_Find k ks key) ?_
  have := (find_l key ks hl ks.length 0 (by omega)).diag
  rw [List.drop_zero] at this
  unfold fnd num
  cases hf : fndI key (keysOf ks) with
  | none => rw [hf] at this; exact this
  | some j => rw [hf] at this; simpa using this
/-! Ask, Tell, Put -/
def askF (ks : List TKnown) (r : TRequest) : TReply × Bool :=
  match fnd r.1 ks with
  | none => ((0, 0), false)
  | some i => if (ks.getD i d0).1 = r then (if (ks.getD i d0).2.2 = true then ((ks.getD i d0).2.1, true) else ((10, 0), true)) else ((5, 0), true)
def tellF (ks : List TKnown) (key : Int) (x : TReply) : List TKnown × Option Int :=
  match fnd key ks with
  | none => ([], some 2)
  | some i => if (ks.getD i d0).2.2 = true then ([], some 6) else (ks.set i ((ks.getD i d0).1, x, true), none)
def putF (ks : List TKnown) (r : TRequest) : List TKnown × Option Int :=
  match fnd r.1 ks with
  | some _ => ([], some 5)
  | none => if 256 ≤ ks.length then ([], some 7) else (ks ++ [(r, (0, 0), false)], none)
theorem req_eq (a r : TRequest) : (decide (a.1 = r.1) && (decide (a.2.1 = r.2.1) && (decide (a.2.2.1 = r.2.2.1) && (decide (a.2.2.2.1 = r.2.2.2.1) && (decide (a.2.2.2.2.1 = r.2.2.2.2.1) && (decide (a.2.2.2.2.2.1 = r.2.2.2.2.2.1) && (decide (a.2.2.2.2.2.2 = r.2.2.2.2.2.2) && true))))))) = decide (a = r) := by
  obtain ⟨a1, a2, a3, a4, a5, a6, a7⟩ := a
  obtain ⟨r1, r2, r3, r4, r5, r6, r7⟩ := r
  rw [Bool.eq_iff_iff]
  simp
theorem ask_ev (ks : List TKnown) (r : TRequest) (hl : ks.length ≤ 140737488351232) : Ev1 (fun k => CF k sRe n_keys_Ask [inj KL ks, inj KRequest r]) (askF ks r) := by
  refine Ev1.step (fun k => f_keys_Ask k ks r) (Ev1.bind (find_ev ks r.1 hl) ?_)
  unfold askF
  cases hf : fnd r.1 ks with
  | none => exact Ev1.posD (by show (-1 : Int) < 0; omega) (Ev1.now _)
  | some i =>
    obtain ⟨h1, h2⟩ := fnd_some hf
    have hin : inb (num (some i)) ks.length = true := inb_true (by show (0 : Int) ≤ (i : Int); omega) (by show (i : Int) < _; omega)
    refine Ev1.negD (by show ¬ ((i : Int) < 0); omega) (Ev1.pos hin ?_)
    have eg : ks.getD (Int.toNat (num (some i))) d0 = ks.getD i d0 := by show ks.getD (Int.toNat (i : Int)) d0 = _; rw [Int.toNat_natCast]
    unfold d0 at eg ⊢
    rw [eg, req_eq]
    dsimp only
    generalize ks.getD i ((0, 0, 0, 0, 0, 0, 0), (0, 0), false) = kn
    by_cases c1 : kn.1 = r
    · rw [if_pos c1, decide_eq_true c1]
      refine Ev1.neg rfl (Ev1.pos hin ?_)
      cases hb : kn.2.2 with
      | true => exact Ev1.neg rfl (Ev1.pos hin (Ev1.now _))
      | false => exact Ev1.pos rfl (Ev1.now _)
    · rw [if_neg c1, decide_eq_false c1]
      exact Ev1.pos rfl (Ev1.now _)
theorem tell_ev (ks : List TKnown) (key : Int) (x : TReply) (hl : ks.length * 80 ≤ 140737488355328) : Ev1 (fun k => CF k sKe n_keys_Tell [inj KL ks, inj I key, inj KReply x]) (tellF ks key x) := by
  refine Ev1.step (fun k => f_keys_Tell k ks key x) (Ev1.bind (find_ev ks key (by omega)) ?_)
  unfold tellF
  cases hf : fnd key ks with
  | none => exact Ev1.posD (by show (-1 : Int) < 0; omega) (Ev1.now _)
  | some i =>
    obtain ⟨h1, h2⟩ := fnd_some hf
    have hin : inb (num (some i)) ks.length = true := inb_true (by show (0 : Int) ≤ (i : Int); omega) (by show (i : Int) < _; omega)
    refine Ev1.negD (by show ¬ ((i : Int) < 0); omega) (Ev1.pos hin ?_)
    have en : Int.toNat (num (some i)) = i := by show Int.toNat (i : Int) = _; rw [Int.toNat_natCast]
    rw [en]
    unfold d0
    dsimp only
    generalize hk : ks.getD i ((0, 0, 0, 0, 0, 0, 0), (0, 0), false) = kn
    cases hb : kn.2.2 with
    | true => exact Ev1.pos rfl (Ev1.now _)
    | false =>
      refine Ev1.neg rfl (Ev1.posD (by omega) (Ev1.pos hin (Ev1.pos (by rw [List.length_set]; exact hin) (Ev1.const ?_))))
      have eg : (ks.set i (kn.1, x, false)).getD i ((0, 0, 0, 0, 0, 0, 0), (0, 0), false) = (kn.1, x, false) := by
        rw [getD_at _ i _ (by rw [List.length_set]; exact h1), List.getElem_set_self]
      rw [eg, List.set_set]
      rfl
theorem put_ev (ks : List TKnown) (r : TRequest) (hl : ks.length * 80 ≤ 140737488355328) : Ev1 (fun k => CF k sKe n_keys_Put [inj KL ks, inj KRequest r]) (putF ks r) := by
  refine Ev1.step (fun k => f_keys_Put k ks r _ rfl) (Ev1.bind (find_ev ks r.1 (by omega)) ?_)
  unfold putF
  cases hf : fnd r.1 ks with
  | some i => exact Ev1.posD (by show (0 : Int) ≤ (i : Int); omega) (Ev1.now _)
  | none =>
    refine Ev1.negD (by show ¬ (0 : Int) ≤ -1; omega) ?_
    by_cases h : 256 ≤ ks.length
    · rw [if_pos h]; exact Ev1.posD (by omega) (Ev1.now _)
    · rw [if_neg h]
      exact Ev1.negD (by omega) (Ev1.posD (by omega) (Ev1.posD (by simp only [List.length_cons, List.length_nil]; omega) (Ev1.now _)))
/-! Same -/
theorem same_l (a : List TKnown) (hl : a.length ≤ 140737488351232) : ∀ (d i : Nat), i + d = a.length → Ev2 (fun k m => h_law11_Same k m a a (a.length : Int) (i : Int)) true
  | 0, i, h => Ev2.step (fun k m => h_law11_Same_s k m a a (a.length : Int) (i : Int) _ rfl _ rfl) (Ev2.negD (by omega) (Ev2.now _))
  | d + 1, i, h => by
    refine Ev2.step (fun k m => h_law11_Same_s k m a a (a.length : Int) (i : Int) _ rfl _ rfl) (Ev2.posD (by omega) (Ev2.pos (inb_true (by omega) (by omega)) (Ev2.pos (inb_true (by omega) (by omega)) (Ev2.neg (by simp) ?_))))
    rw [wnat (by omega)]
    exact same_l a hl d (i + 1) (by omega)
theorem same_ev (a : List TKnown) (hl : a.length ≤ 140737488351232) : Ev1 (fun k => CF k sBo n_law11_Same [inj KL a, inj KL a]) true :=
  Ev1.step (fun k => f_law11_Same k a a _ rfl) (Ev1.neg (by simp) (same_l a hl a.length 0 (by omega)).diag)
/-! KeysFirst -/
theorem fnd_app (key : Int) (ks : List TKnown) (x : TKnown) : fnd key (ks ++ [x]) = match fnd key ks with | some i => some i | none => if x.1.1 = key then some ks.length else none := by
  unfold fnd keysOf
  rw [List.map_append, List.map_cons, List.map_nil, fndI_app, List.length_map]
theorem getD_last (ks : List TKnown) (x : TKnown) (d : TKnown) : (ks ++ [x]).getD ks.length d = x := by
  rw [getD_at _ _ _ (by rw [List.length_append]; simp), List.getElem_append_right (Nat.le_refl _)]; simp
theorem set_last (ks : List TKnown) (x y : TKnown) : (ks ++ [x]).set ks.length y = ks ++ [y] := by
  rw [List.set_append_right _ _ (Nat.le_refl _)]; simp
theorem KeysFirst (ks : List TKnown) (r : TRequest) (x : TReply) (hl : ks.length * 80 ≤ 140737488351232) (hB : -9223372036854775808 ≤ r.2.2.2.1 ∧ r.2.2.2.1 ≤ 9223372036854775807) :
    Ev1 (fun k => CF k sBo n_law11_KeysFirst [inj KL ks, inj KRequest r, inj KReply x]) true := by
  refine Ev1.step (fun k => f_law11_KeysFirst k ks r x _ rfl) (Ev1.bind awake_ev (Ev1.neg rfl (Ev1.bind (put_ev ks r (by omega)) ?_)))
  have ep : putF ks r = match fnd r.1 ks with | some _ => ([], some 5) | none => if 256 ≤ ks.length then ([], some 7) else (ks ++ [(r, (0, 0), false)], none) := rfl
  cases hf : fnd r.1 ks with
  | some i =>
    rw [hf] at ep
    rw [ep]
    exact Ev1.pos rfl (Ev1.const (congrArg some (decide_eq_true rfl)))
  | none =>
    rw [hf] at ep
    dsimp only at ep
    by_cases h256 : 256 ≤ ks.length
    · rw [if_pos h256] at ep
      rw [ep]
      exact Ev1.pos rfl (Ev1.const (congrArg some (decide_eq_true rfl)))
    · rw [if_neg h256] at ep
      rw [ep]
      have hla : (ks ++ [((r, (0, 0), false) : TKnown)]).length ≤ 256 := by rw [List.length_append]; simp only [List.length_cons, List.length_nil]; omega
      have hlb : (ks ++ [((r, x, true) : TKnown)]).length ≤ 256 := by rw [List.length_append]; simp only [List.length_cons, List.length_nil]; omega
      have fa : fnd r.1 (ks ++ [((r, (0, 0), false) : TKnown)]) = some ks.length := by rw [fnd_app, hf]; simp
      have fb : fnd r.1 (ks ++ [((r, x, true) : TKnown)]) = some ks.length := by rw [fnd_app, hf]; simp
      have t1 : tellF (ks ++ [((r, (0, 0), false) : TKnown)]) r.1 x = (ks ++ [(r, x, true)], none) := by
        unfold tellF
        rw [fa]
        dsimp only
        rw [getD_last, set_last]; rfl
      have t2 : tellF (ks ++ [((r, x, true) : TKnown)]) r.1 (0, 0) = ([], some 6) := by
        unfold tellF
        rw [fb]
        dsimp only
        rw [getD_last]; rfl
      have p2 : putF (ks ++ [((r, x, true) : TKnown)]) r = ([], some 5) := by unfold putF; rw [fb]
      have a1 : askF (ks ++ [((r, x, true) : TKnown)]) r = (x, true) := by
        unfold askF
        rw [fb]
        dsimp only
        rw [getD_last, if_pos rfl, if_pos rfl]
      have hne : ¬ r = ((r.1, r.2.1, r.2.2.1, w64 (r.2.2.2.1 + 1), r.2.2.2.2) : TRequest) := by
        intro e
        have e4 : r.2.2.2.1 = w64 (r.2.2.2.1 + 1) := congrArg (fun z : TRequest => z.2.2.2.1) e
        by_cases hm : r.2.2.2.1 = 9223372036854775807
        · rw [hm] at e4
          have : w64 (9223372036854775807 + 1) = -9223372036854775808 := rfl
          omega
        · rw [w64_id (by omega)] at e4; omega
      have a2 : askF (ks ++ [((r, x, true) : TKnown)]) (r.1, r.2.1, r.2.2.1, w64 (r.2.2.2.1 + 1), r.2.2.2.2) = ((5, 0), true) := by
        unfold askF
        dsimp only
        rw [fb]
        dsimp only
        rw [getD_last, if_neg hne]
      have ht1 := tell_ev (ks ++ [((r, (0, 0), false) : TKnown)]) r.1 x (by omega)
      have ht2 := tell_ev (ks ++ [((r, x, true) : TKnown)]) r.1 (0, 0) (by omega)
      have hp2 := put_ev (ks ++ [((r, x, true) : TKnown)]) r (by omega)
      have ha1 := ask_ev (ks ++ [((r, x, true) : TKnown)]) r (by omega)
      have ha2 := ask_ev (ks ++ [((r, x, true) : TKnown)]) (r.1, r.2.1, r.2.2.1, w64 (r.2.2.2.1 + 1), r.2.2.2.2) (by omega)
      rw [t1] at ht1
      rw [t2] at ht2
      rw [p2] at hp2
      rw [a1] at ha1
      rw [a2] at ha2
      refine Ev1.neg rfl (Ev1.bind ht1 (Ev1.neg rfl (Ev1.bind ha1 (Ev1.bind ht2 (Ev1.bind hp2 (Ev1.bind ha2 (Ev1.pos rfl (Ev1.pos (by simp) (Ev1.bind (num_ev (some 6)) (Ev1.posD rfl (Ev1.bind (num_ev (some 5)) (Ev1.posD rfl (Ev1.pos rfl (Ev1.posD rfl (Ev1.pos (and2 (by omega) (by rw [List.length_append]; omega)) ?_)))))))))))))))
      rw [Int.toNat_natCast, List.take_left']
      · exact Ev1.bind (same_ev ks (by omega)) (Ev1.now _)
      · rfl
/-! KeysScript -/
def Tells (o : Option TRequest) (v : Int) : Prop := ∃ r, o = some r ∧ r.1 = v
theorem tells_cond (c : Bool) (x y : Option TRequest) (v : Int) (hx : Tells x v) (hy : Tells y v) : Tells (bif c then x else y) v := by cases c <;> assumption
theorem tells_some (r : TRequest) : Tells (some r) r.1 := ⟨r, rfl, rfl⟩
theorem request_ev (a : TAsk) (ha : 0 ≤ a.1 ∧ a.1 ≤ 255) : ∃ r : TRequest, Ev1 (fun k => CF k sRq n_law10_Ask_Request [inj KAsk a]) r ∧ 0 ≤ r.1 := by
  have h : Tells (CF (0 + 1) sRq n_law10_Ask_Request [inj KAsk a]) (w64 a.1) := by
    rw [f_law10_Ask_Request 0 a _ rfl _ rfl _ rfl _ rfl _ rfl _ rfl]
    repeat (first | exact tells_some _ | apply tells_cond)
  obtain ⟨r, h1, h2⟩ := h
  refine ⟨r, Ev1.step (fun k => (f_law10_Ask_Request k a _ rfl _ rfl _ rfl _ rfl _ rfl _ rfl).trans (f_law10_Ask_Request 0 a _ rfl _ rfl _ rfl _ rfl _ rfl _ rfl).symm) (Ev1.const h1), ?_⟩
  rw [h2, w64_id (by omega)]
  exact ha.1
/-- How many of eight keys are known. -/
def one (key : Int) (ks : List TKnown) : Nat := if (fnd key ks).isSome then 1 else 0
def cnt (ks : List TKnown) : Nat := one 0 ks + one 1 ks + one 2 ks + one 3 ks + one 4 ks + one 5 ks + one 6 ks + one 7 ks
theorem one_le (key : Int) (ks : List TKnown) : one key ks ≤ 1 := by unfold one; split <;> omega
theorem cnt_le (ks : List TKnown) : cnt ks ≤ 8 := by
  have := fun j => one_le j ks
  unfold cnt
  have h0 := this 0; have h1 := this 1; have h2 := this 2; have h3 := this 3; have h4 := this 4; have h5 := this 5; have h6 := this 6; have h7 := this 7
  omega
theorem one_app (key : Int) (ks : List TKnown) (x : TKnown) (h : fnd x.1.1 ks = none) : one key (ks ++ [x]) = one key ks + if x.1.1 = key then 1 else 0 := by
  unfold one
  rw [fnd_app]
  by_cases e : x.1.1 = key
  · subst e; rw [h]; simp
  · cases fnd key ks with
    | none => simp [e]
    | some i => simp [e]
theorem cnt_app (ks : List TKnown) (x : TKnown) (h : fnd x.1.1 ks = none) (hk : 0 ≤ x.1.1 ∧ x.1.1 ≤ 7) : cnt (ks ++ [x]) = cnt ks + 1 := by
  unfold cnt
  rw [one_app 0 ks x h, one_app 1 ks x h, one_app 2 ks x h, one_app 3 ks x h, one_app 4 ks x h, one_app 5 ks x h, one_app 6 ks x h, one_app 7 ks x h]
  rcases (by omega : x.1.1 = 0 ∨ x.1.1 = 1 ∨ x.1.1 = 2 ∨ x.1.1 = 3 ∨ x.1.1 = 4 ∨ x.1.1 = 5 ∨ x.1.1 = 6 ∨ x.1.1 = 7) with e | e | e | e | e | e | e | e <;> rw [e] <;> simp <;> omega
theorem cnt_set (ks : List TKnown) (i : Nat) (x : TKnown) (h : i < ks.length) (hx : x.1.1 = ks[i].1.1) : cnt (ks.set i x) = cnt ks := by
  unfold cnt one fnd
  rw [keysOf_set ks i x h hx]
abbrev Inv (ks : List TKnown) : Prop := ks.length = cnt ks
section
variable (acts : List TAct) (hal : acts.length ≤ 140737488351232)
/-- Behind a deed. -/
theorem ks4 (i : Nat) (hi : i < 140737488351232) (ks next model : List TKnown) (e : Option Int) (err : Int) (he : e.getD 0 = err) (hl : ks.length ≤ 8) (hl2 : model.length ≤ 9)
    (h1 : err ≠ 0 → next = [] ∧ model = ks) (h2 : err = 0 → next = model) (go : Ev2 (fun k m => h_law11_KeysScript k m model acts (acts.length : Int) ((i + 1 : Nat) : Int) model) true) :
    Ev3 (fun k m1 m => h_law11_KeysScript_4 k m1 m ks next e err acts (acts.length : Int) (i : Int) model) true := by
  refine Ev3.step (fun k m1 m => h_law11_KeysScript_4_s k m1 m ks next e err acts (acts.length : Int) (i : Int) model ((i + 1 : Nat) : Int) (wnat (by omega)).symm) (Ev3.bind (num_ev e) ?_)
  rw [he]
  refine Ev3.neg (by simp) ?_
  by_cases h0 : err = 0
  · have hn := h2 h0
    subst hn
    refine Ev3.neg (by rw [decide_eq_true h0]; rfl) (Ev3.posD h0 (Ev3.bind (same_ev next (by omega)) (Ev3.neg rfl (Ev2.drop go))))
  · obtain ⟨hn, hm⟩ := h1 h0
    subst hn hm
    refine Ev3.pos (by rw [decide_eq_false h0]; rfl) (Ev3.neg rfl (Ev3.negD h0 (Ev3.bind (same_ev model (by omega)) (Ev3.neg rfl (Ev2.drop go)))))
theorem ks3 (i : Nat) (hi : i < 140737488351232) (M : List TKnown) (hI : Inv M) (q : Int) (hq : 0 ≤ q ∧ q ≤ 7) (tell : Bool) (a1 a2 a3 a4 a5 a6 a7 a8 r1 r2 r3 r4 r5 r6 : Int)
    (go : ∀ M' : List TKnown, Inv M' → Ev2 (fun k m => h_law11_KeysScript k m M' acts (acts.length : Int) ((i + 1 : Nat) : Int) M') true) :
    Ev3 (fun k m1 m => h_law11_KeysScript_3 k m1 m M (num (fnd q M)) acts (acts.length : Int) (i : Int) M tell a1 a2 a3 a4 a5 a6 a7 a8 q r1 r2 r3 r4 r5 r6) true := by
  have hc := cnt_le M
  have hM : M.length ≤ 8 := by unfold Inv at hI; omega
  have d4 := fun (ks next model : List TKnown) (e : Option Int) (err : Int) (he : e.getD 0 = err) (hl : ks.length ≤ 8) (hl2 : model.length ≤ 9) (h1 : err ≠ 0 → next = [] ∧ model = ks) (h2 : err = 0 → next = model) (hv : Inv model) =>
    Ev2.drop (Ev3.diag (f := fun k m1 m => h_law11_KeysScript_4 k m1 m ks next e err acts (acts.length : Int) (i : Int) model) (ks4 acts i hi ks next model e err he hl hl2 h1 h2 (go model hv)))
  refine Ev3.step (fun k m1 m => h_law11_KeysScript_3_s k m1 m M (num (fnd q M)) acts (acts.length : Int) (i : Int) M tell a1 a2 a3 a4 a5 a6 a7 a8 q r1 r2 r3 r4 r5 r6 _ rfl _ rfl _ rfl _ rfl _ rfl _ rfl) ?_
  cases tell with
  | true =>
    refine Ev3.pos rfl (Ev3.bind (tell_ev M q (0, w64 a8) (by omega)) ?_)
    unfold tellF
    cases hf : fnd q M with
    | none => exact Ev3.posD (by show (-1 : Int) < 0; omega) (d4 M [] M (some 2) 2 rfl hM (by omega) (fun _ => ⟨rfl, rfl⟩) (fun h => by cases h) hI)
    | some j =>
      obtain ⟨h1, h2⟩ := fnd_some hf
      have hin : inb (num (some j)) M.length = true := inb_true (by show (0 : Int) ≤ (j : Int); omega) (by show (j : Int) < _; omega)
      have en : Int.toNat (num (some j)) = j := by show Int.toNat (j : Int) = _; rw [Int.toNat_natCast]
      refine Ev3.negD (by show ¬ ((j : Int) < 0); omega) (Ev3.pos hin ?_)
      rw [en]
      have eg : M.getD j d0 = M[j] := getD_at M j _ h1
      unfold d0 at eg ⊢
      dsimp only
      rw [eg]
      cases hb : M[j].2.2 with
      | true => exact Ev3.pos rfl (d4 M [] M (some 6) 6 rfl hM (by omega) (fun _ => ⟨rfl, rfl⟩) (fun h => by cases h) hI)
      | false =>
        have es : (M.set j (M[j].1, (0, w64 a8), false)).getD j ((0, 0, 0, 0, 0, 0, 0), (0, 0), false) = (M[j].1, (0, w64 a8), false) := by
          rw [getD_at _ j _ (by rw [List.length_set]; exact h1), List.getElem_set_self]
        refine Ev3.neg rfl (Ev3.posD (by omega) (Ev3.pos hin (Ev3.pos (by rw [List.length_set]; exact hin) ?_)))
        rw [es, List.set_set]
        refine d4 M (M.set j (M[j].1, (0, w64 a8), true)) (M.set j (M[j].1, (0, w64 a8), true)) none 0 rfl hM (by rw [List.length_set]; omega) (fun h => absurd rfl h) (fun _ => rfl) ?_
        unfold Inv
        rw [List.length_set, cnt_set M j (M[j].1, (0, w64 a8), true) h1 rfl]
        exact hI
  | false =>
    refine Ev3.neg rfl (Ev3.bind (put_ev M (q, r1, r2, r3, r4, r5, r6) (by omega)) ?_)
    unfold putF
    dsimp only
    cases hf : fnd q M with
    | some j => exact Ev3.posD (by show (0 : Int) ≤ (j : Int); omega) (d4 M [] M (some 5) 5 rfl hM (by omega) (fun _ => ⟨rfl, rfl⟩) (fun h => by cases h) hI)
    | none =>
      dsimp only
      rw [if_neg (by omega)]
      refine Ev3.negD (by show ¬ (0 : Int) ≤ -1; omega) (Ev3.posD (by simp only [List.length_cons, List.length_nil]; omega) ?_)
      refine d4 M _ _ none 0 rfl hM (by rw [List.length_append]; simp only [List.length_cons, List.length_nil]; omega) (fun h => absurd rfl h) (fun _ => rfl) ?_
      unfold Inv
      rw [cnt_app M _ hf hq, List.length_append]
      unfold Inv at hI
      simp only [List.length_cons, List.length_nil]; omega
theorem ks2 (i : Nat) (hi : i < 140737488351232) (M : List TKnown) (hI : Inv M) (q : Int) (hq : 0 ≤ q ∧ q ≤ 7) (tell : Bool) (a1 a2 a3 a4 a5 a6 a7 a8 r1 r2 r3 r4 r5 r6 w1 w2 : Int) (is : Bool) (his : is = decide (0 ≤ num (fnd q M))) (hw : (askF M (q, r1, r2, r3, r4, r5, r6)).1 = (w1, w2))
    (go : ∀ M' : List TKnown, Inv M' → Ev2 (fun k m => h_law11_KeysScript k m M' acts (acts.length : Int) ((i + 1 : Nat) : Int) M') true) :
    Ev3 (fun k m1 m => h_law11_KeysScript_2 k m1 m M (num (fnd q M)) is acts (acts.length : Int) (i : Int) M tell a1 a2 a3 a4 a5 a6 a7 a8 q r1 r2 r3 r4 r5 r6 w1 w2) true := by
  have hc := cnt_le M
  have hM : M.length ≤ 8 := by unfold Inv at hI; omega
  have h2 : (askF M (q, r1, r2, r3, r4, r5, r6)).2 = is := by
    rw [his]
    unfold askF
    dsimp only
    cases hf : fnd q M with
    | none => rfl
    | some j =>
      dsimp only
      rw [decide_eq_true (by show (0 : Int) ≤ (j : Int); omega)]
      split
      · split <;> rfl
      · rfl
  refine Ev3.step (fun k m1 m => h_law11_KeysScript_2_s k m1 m M (num (fnd q M)) is acts (acts.length : Int) (i : Int) M tell a1 a2 a3 a4 a5 a6 a7 a8 q r1 r2 r3 r4 r5 r6 w1 w2) (Ev3.bind (ask_ev M (q, r1, r2, r3, r4, r5, r6) (by omega)) ?_)
  rw [hw, h2]
  refine Ev3.neg (by simp) (Ev3.neg (by simp) (Ev3.bind (find_ev M q (by omega)) (Ev3.neg (by simp) ?_)))
  exact Ev2.drop (Ev3.diag (f := fun k m1 m => h_law11_KeysScript_3 k m1 m M (num (fnd q M)) acts (acts.length : Int) (i : Int) M tell a1 a2 a3 a4 a5 a6 a7 a8 q r1 r2 r3 r4 r5 r6) (ks3 acts i hi M hI q hq tell a1 a2 a3 a4 a5 a6 a7 a8 r1 r2 r3 r4 r5 r6 go))
theorem ks1 (i : Nat) (hi : i < 140737488351232) (M : List TKnown) (hI : Inv M) (q : Int) (hq : 0 ≤ q ∧ q ≤ 7) (tell : Bool) (a1 a2 a3 a4 a5 a6 a7 a8 r1 r2 r3 r4 r5 r6 : Int)
    (go : ∀ M' : List TKnown, Inv M' → Ev2 (fun k m => h_law11_KeysScript k m M' acts (acts.length : Int) ((i + 1 : Nat) : Int) M') true) :
    ∀ (d j : Nat) (at_ : Int), j + d = M.length → (at_ = -1 ∧ num (fnd q M) = (match fndI q ((keysOf M).drop j) with | none => -1 | some t => ((j + t : Nat) : Int)) ∨ 0 ≤ at_ ∧ at_ = num (fnd q M)) →
    Ev3 (fun k m1 m => h_law11_KeysScript_1 k m1 m M at_ acts (acts.length : Int) (i : Int) (M.length : Int) (j : Int) M tell a1 a2 a3 a4 a5 a6 a7 a8 q r1 r2 r3 r4 r5 r6) true
  | 0, j, at_, hj, hat => by
    have hc := cnt_le M
    have hM : M.length ≤ 8 := by unfold Inv at hI; omega
    have e : at_ = num (fnd q M) := by
      rcases hat with ⟨h1, h2⟩ | ⟨_, h2⟩
      · rw [List.drop_of_length_le (by unfold keysOf; rw [List.length_map]; omega)] at h2
        rw [h1, h2]; rfl
      · exact h2
    subst e
    have d2 := fun (w1 w2 : Int) (hw : (askF M (q, r1, r2, r3, r4, r5, r6)).1 = (w1, w2)) =>
      Ev2.drop (Ev3.diag (f := fun k m1 m => h_law11_KeysScript_2 k m1 m M (num (fnd q M)) (decide (0 ≤ num (fnd q M))) acts (acts.length : Int) (i : Int) M tell a1 a2 a3 a4 a5 a6 a7 a8 q r1 r2 r3 r4 r5 r6 w1 w2) (ks2 acts i hi M hI q hq tell a1 a2 a3 a4 a5 a6 a7 a8 r1 r2 r3 r4 r5 r6 w1 w2 _ rfl hw go))
    refine Ev3.step (fun k m1 m => h_law11_KeysScript_1_s k m1 m M (num (fnd q M)) acts (acts.length : Int) (i : Int) (M.length : Int) (j : Int) M tell a1 a2 a3 a4 a5 a6 a7 a8 q r1 r2 r3 r4 r5 r6 _ rfl _ rfl) (Ev3.negD (by omega) ?_)
    have ea : askF M (q, r1, r2, r3, r4, r5, r6) = match fnd q M with | none => ((0, 0), false) | some i => if (M.getD i d0).1 = (q, r1, r2, r3, r4, r5, r6) then (if (M.getD i d0).2.2 = true then ((M.getD i d0).2.1, true) else ((10, 0), true)) else ((5, 0), true) := rfl
    cases hf : fnd q M with
    | none =>
      rw [hf] at d2 ea
      have hn : ¬ (0 : Int) ≤ num none := by show ¬ (0 : Int) ≤ -1; omega
      exact Ev3.negD hn (Ev3.negD hn (Ev3.negD hn (d2 0 0 (by rw [ea]))))
    | some t =>
      rw [hf] at d2 ea
      obtain ⟨h1, h2⟩ := fnd_some hf
      have hin : inb (num (some t)) M.length = true := inb_true (by show (0 : Int) ≤ (t : Int); omega) (by show (t : Int) < _; omega)
      have hp : (0 : Int) ≤ num (some t) := by show (0 : Int) ≤ (t : Int); omega
      have en : Int.toNat (num (some t)) = t := by show Int.toNat (t : Int) = _; rw [Int.toNat_natCast]
      refine Ev3.posD hp (Ev3.pos hin ?_)
      rw [en]
      unfold d0 at ea
      dsimp only at ea
      have rq := req_eq (M.getD t ((0, 0, 0, 0, 0, 0, 0), (0, 0), false)).1 (q, r1, r2, r3, r4, r5, r6)
      dsimp only at rq
      rw [rq]
      generalize M.getD t ((0, 0, 0, 0, 0, 0, 0), (0, 0), false) = kn at ea ⊢
      by_cases c1 : kn.1 = (q, r1, r2, r3, r4, r5, r6)
      · rw [if_pos c1] at ea
        rw [decide_eq_true c1]
        refine Ev3.neg rfl (Ev3.posD hp (Ev3.pos hin ?_))
        cases hb : kn.2.2 with
        | true =>
          rw [if_pos hb] at ea
          exact Ev3.neg rfl (Ev3.posD hp (Ev3.pos hin (d2 _ _ (by rw [ea]))))
        | false =>
          rw [if_neg (by rw [hb]; simp)] at ea
          exact Ev3.pos rfl (d2 10 0 (by rw [ea]))
      · rw [if_neg c1] at ea
        rw [decide_eq_false c1]
        exact Ev3.pos rfl (d2 5 0 (by rw [ea]))
  | d + 1, j, at_, hj, hat => by
    have hc := cnt_le M
    have hM : M.length ≤ 8 := by unfold Inv at hI; omega
    have hlt : j < M.length := by omega
    have hk : j < (keysOf M).length := by unfold keysOf; rw [List.length_map]; omega
    have ek : (keysOf M)[j] = M[j].1.1 := by simp [keysOf]
    have ih := ks1 i hi M hI q hq tell a1 a2 a3 a4 a5 a6 a7 a8 r1 r2 r3 r4 r5 r6 go d (j + 1)
    refine Ev3.step (fun k m1 m => h_law11_KeysScript_1_s k m1 m M at_ acts (acts.length : Int) (i : Int) (M.length : Int) (j : Int) M tell a1 a2 a3 a4 a5 a6 a7 a8 q r1 r2 r3 r4 r5 r6 ((j + 1 : Nat) : Int) (wnat (by omega)).symm _ rfl) (Ev3.posD (by omega) ?_)
    have eg := getK M j hlt
    unfold d0 at eg
    rw [eg]
    rcases hat with ⟨h1, h2⟩ | ⟨h1, h2⟩
    · rw [List.drop_eq_getElem_cons hk, ek] at h2
      unfold fndI at h2
      refine Ev3.posD (by omega) (Ev3.pos (inb_true (by omega) (by omega)) ?_)
      by_cases hq : M[j].1.1 = q
      · rw [if_pos hq] at h2
        exact Ev3.posD hq (ih (j : Int) (by omega) (.inr ⟨by omega, by rw [h2]; show (j : Int) = ((j + 0 : Nat) : Int); omega⟩))
      · rw [if_neg hq] at h2
        refine Ev3.negD hq (ih at_ (by omega) (.inl ⟨h1, ?_⟩))
        rw [h2]
        cases fndI q ((keysOf M).drop (j + 1)) with
        | none => rfl
        | some t => show (((j + (t + 1) : Nat)) : Int) = ((j + 1 + t : Nat) : Int); omega
    · exact Ev3.negD (by omega) (ih at_ (by omega) (.inr ⟨h1, h2⟩))
theorem script_l (ha : ∀ a ∈ acts, 0 ≤ a.2.1.1 ∧ a.2.1.1 ≤ 255) (hal : acts.length ≤ 140737488351232) : ∀ (d i : Nat), i + d = acts.length → ∀ M : List TKnown, Inv M → Ev2 (fun k m => h_law11_KeysScript k m M acts (acts.length : Int) (i : Int) M) true
  | 0, i, hi, M, hI => Ev2.step (fun k m => h_law11_KeysScript_s k m M acts (acts.length : Int) (i : Int) M _ rfl _ rfl) (Ev2.negD (by omega) (Ev2.now _))
  | d + 1, i, hi, M, hI => by
    have hlt : i < acts.length := by omega
    have go := script_l ha hal d (i + 1) (by omega)
    have eg : acts.getD (Int.toNat (i : Int)) (false, ((0 : Int), (0 : Int), (0 : Int), (0 : Int), (0 : Int), (0 : Int), (0 : Int)), (0 : Int)) = acts[i] := by rw [Int.toNat_natCast]; exact getD_at acts i _ hlt
    have hai := ha _ (List.getElem_mem hlt)
    obtain ⟨r, hr, hr0⟩ := request_ev acts[i].2.1 hai
    have hq : 0 ≤ Int.tmod r.1 8 ∧ Int.tmod r.1 8 ≤ 7 := by rw [Int.tmod_eq_emod_of_nonneg hr0]; omega
    refine Ev2.step (fun k m => h_law11_KeysScript_s k m M acts (acts.length : Int) (i : Int) M acts[i] eg.symm _ rfl) (Ev2.posD (by omega) (Ev2.pos (inb_true (by omega) (by omega)) (Ev2.bind hr ?_)))
    refine Ev3.diag (ks1 acts i (by omega) M hI _ hq acts[i].1 _ _ _ _ _ _ _ _ _ _ _ _ _ _ go M.length 0 (-1) (by omega) (.inl ⟨rfl, ?_⟩))
    rw [List.drop_zero]
    unfold fnd num
    cases fndI (Int.tmod r.1 8) (keysOf M) with
    | none => rfl
    | some t => show (t : Int) = ((0 + t : Nat) : Int); omega
end
theorem KeysScript (acts : List TAct) (ha : ∀ a ∈ acts, 0 ≤ a.2.1.1 ∧ a.2.1.1 ≤ 255) (hal : acts.length ≤ 140737488351232) : Ev1 (fun k => CF k sBo n_law11_KeysScript [inj (.slice KAct) acts]) true := by
  refine Ev1.step (fun k => f_law11_KeysScript k acts) (Ev1.bind awake_ev (Ev1.neg rfl ?_))
  exact Ev2.diag (f := fun k m => h_law11_KeysScript k m [] acts (acts.length : Int) 0 []) (script_l acts ha hal acts.length 0 (by omega) [] rfl)
end Go.Eng.Key
