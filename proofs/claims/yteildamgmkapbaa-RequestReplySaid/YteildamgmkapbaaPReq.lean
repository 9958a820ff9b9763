/- The laws of layer 10. Conditions: the statements' own. -/
import Derived.Test.YteildamgmkapbaaPReqReqM
set_option linter.all false
set_option linter.unusedVariables false
set_option linter.unusedSimpArgs false
set_option linter.deprecated false
namespace Go.Eng.Req
open Go.RowKit Go.Eng Go.Eng.LVar
set_option maxRecDepth 100000
theorem awake_ev : Ev1 (fun k => CF k sBo n_law10_awake []) true := Ev1.of_rfl 30 (fun k => by kernel_rfl)
theorem lawmay_eq (k : Nat) (key op a b n legs till : Int) : CF (k + 1) sBo n_law10_may [inj KRequest (rq key op a b n legs till)] = some (mayB key op a n legs till) := by
  refine (f_law10_may k (rq key op a b n legs till)).trans ?_
  dsimp only [rq]
  simp only [cond_some]
  refine some_iff ?_
  unfold mayB opB
  simp only [cond_iff, decide_eq_true_eq, decide_eq_false_iff_not, Bool.not_eq_true', Bool.not_eq_false', Bool.false_eq_true, Bool.and_eq_true, and_false, false_or, or_false, and_true]
  omega
theorem may_ev (r : TRequest) : Ev1 (fun k => CF k sBo n_request_May [inj KRequest r]) (mayB r.1 r.2.1 r.2.2.1 r.2.2.2.2.1 r.2.2.2.2.2.1 r.2.2.2.2.2.2) := Ev1.of_rfl 2 (fun k => may_eq k r.1 r.2.1 r.2.2.1 r.2.2.2.1 r.2.2.2.2.1 r.2.2.2.2.2.1 r.2.2.2.2.2.2)
theorem lawmay_ev (r : TRequest) : Ev1 (fun k => CF k sBo n_law10_may [inj KRequest r]) (mayB r.1 r.2.1 r.2.2.1 r.2.2.2.2.1 r.2.2.2.2.2.1 r.2.2.2.2.2.2) := Ev1.of_rfl 1 (fun k => lawmay_eq k r.1 r.2.1 r.2.2.1 r.2.2.2.1 r.2.2.2.2.1 r.2.2.2.2.2.1 r.2.2.2.2.2.2)
theorem long_ev (r : TRequest) : Ev1 (fun k => CF k sBo n_request_Long [inj KRequest r]) (decide (0 < r.2.2.2.2.2.1 ∧ r.2.1 = 2)) := by
  refine Ev1.step (fun k => f_request_Long k r) ?_
  obtain ⟨key, op, a, b, n, legs, till⟩ := r
  by_cases h : 0 < legs
  · exact Ev1.posD h (Ev1.const (congrArg some (decide_eq_decide.2 (by simp [h]))))
  · exact Ev1.negD h (Ev1.const (congrArg some (decide_eq_false (fun q => h q.1)).symm))
abbrev okA (a : TAsk) : Prop := (0 ≤ a.1 ∧ a.1 ≤ 255) ∧ (0 ≤ a.2.1 ∧ a.2.1 ≤ 255) ∧ (0 ≤ a.2.2.1 ∧ a.2.2.1 ≤ 255) ∧ (0 ≤ a.2.2.2.1 ∧ a.2.2.2.1 ≤ 255) ∧ (0 ≤ a.2.2.2.2.1 ∧ a.2.2.2.2.1 ≤ 65535) ∧ (0 ≤ a.2.2.2.2.2.1 ∧ a.2.2.2.2.2.1 ≤ 255) ∧ (0 ≤ a.2.2.2.2.2.2 ∧ a.2.2.2.2.2.2 ≤ 255)
theorem ask_ev' (a : TAsk) (h : okA a) : ∃ r : TRequest, Ev1 (fun k => CF k ⟨[(false, KRequest)], []⟩ n_law10_Ask_Request [inj KAsk a]) r ∧ Asked r := by
  obtain ⟨op, a', b, n, legs, till, h1, h2, _⟩ := ask_ev a.1 a.2.1 a.2.2.1 a.2.2.2.1 a.2.2.2.2.1 a.2.2.2.2.2.1 a.2.2.2.2.2.2 h.1 h.2.1 h.2.2.1 h.2.2.2.1 h.2.2.2.2.1 h.2.2.2.2.2.1 h.2.2.2.2.2.2
  exact ⟨_, Ev1.of_rfl 1 h1, h2⟩
theorem RequestMay (r : TRequest) (a : TAsk) (ha : okA a) : Ev1 (fun k => CF k sBo n_law10_RequestMay [inj KRequest r, inj KAsk a]) true := by
  obtain ⟨x, hx, hA⟩ := ask_ev' a ha
  refine Ev1.step (fun k => f_law10_RequestMay k r a) (Ev1.bind awake_ev (Ev1.neg rfl (Ev1.bind (may_ev r) (Ev1.bind (lawmay_ev r) (Ev1.pos (beq_self_eq_true _) (Ev1.bind hx (Ev1.bind (may_ev x) (Ev1.pos hA.may (Ev1.bind (long_ev r) ?_)))))))))
  obtain ⟨key, op, a, b, n, legs, till⟩ := r
  by_cases h : op = 2
  · refine Ev1.posD h (Ev1.const (congrArg some ?_))
    rw [beq_iff_eq]; exact decide_eq_decide.2 (by simp [h])
  · refine Ev1.negD h (Ev1.const (congrArg some ?_))
    rw [beq_iff_eq]; exact decide_eq_false (fun q => h q.2)
theorem mayB_legs {key op a n legs till : Int} (h : mayB key op a n legs till = true) : 0 < legs → op = 2 := by
  unfold mayB at h
  simp only [Bool.and_eq_true, decide_eq_true_eq] at h
  omega
theorem RequestLong (a : TAsk) (legs op : Int) (ha : okA a) (ho : -128 ≤ op ∧ op ≤ 127) : Ev1 (fun k => CF k sBo n_law10_RequestLong [inj KAsk a, inj I legs, inj (.int .i8) op]) true := by
  obtain ⟨x, hx, hA⟩ := ask_ev' a ha
  obtain ⟨key, op', a', b, n, legs', till⟩ := x
  have hl : 0 < legs' → op' = 2 := mayB_legs hA.may
  refine Ev1.step (fun k => f_law10_RequestLong k a legs op) (Ev1.bind awake_ev (Ev1.neg rfl (Ev1.bind hx (Ev1.bind (long_ev _) (Ev1.neg ?_ (Ev1.bind (may_ev _) ?_))))))
  · rw [Bool.not_eq_false', beq_iff_eq]
    exact decide_eq_decide.2 ⟨fun h => h.1, fun h => ⟨h, hl h⟩⟩
  · dsimp only
    rw [show w64 op = op from w64_id (by omega)]
    cases hm : mayB key op a' n legs till with
    | false => exact Ev1.pos rfl (Ev1.now _)
    | true =>
      refine Ev1.neg rfl (Ev1.bind (long_ev _) (Ev1.const (congrArg some ?_)))
      rw [beq_iff_eq]
      exact decide_eq_decide.2 ⟨fun h => h.1, fun h => ⟨h, mayB_legs hm h⟩⟩
theorem RequestTwo (a b : TAsk) (ha : okA a) (hb : okA b) : Ev1 (fun k => CF k sBo n_law10_RequestTwo [inj KAsk a, inj KAsk b]) true := by
  obtain ⟨x, hx, hA⟩ := ask_ev' a ha
  obtain ⟨y, hy, hB⟩ := ask_ev' b hb
  refine Ev1.step (fun k => f_law10_RequestTwo k a b) (Ev1.bind awake_ev (Ev1.neg rfl (Ev1.bind hx (Ev1.bind hy (Ev1.bind (bytes_ev x hA.range) (Ev1.bind (bytes_ev y hB.range) (Ev1.const (congrArg some ?_))))))))
  rw [beq_iff_eq]
  simp only [Bool.and_true, ← Bool.decide_and]
  refine decide_eq_decide.2 ⟨fun h => ?_, fun h => ?_⟩
  · have := (encs_inj (r := []) (s := []) hA.range hB.range rfl (by rw [h])).1
    simpa using this
  · obtain ⟨h1, h2, h3, h4, h5, h6, h7⟩ := h
    rw [h1, h2, h3, h4, h5, h6, h7]
/-! What is read. -/
abbrev zq : TRequest := (0, 0, 0, 0, 0, 0, 0)
abbrev sRead : Sig := ⟨[(false, KRequest), (false, .slice (.int .u8)), (false, .bool)], []⟩
def rqOf (ns : List Int) : TRequest := (ns.getD 0 0, ns.getD 1 0, ns.getD 2 0, ns.getD 3 0, ns.getD 4 0, ns.getD 5 0, ns.getD 6 0)
def mayR (r : TRequest) : Bool := mayB r.1 r.2.1 r.2.2.1 r.2.2.2.2.1 r.2.2.2.2.2.1 r.2.2.2.2.2.2
def nums (r : TRequest) : List Int := [r.1, r.2.1, r.2.2.1, r.2.2.2.1, r.2.2.2.2.1, r.2.2.2.2.2.1, r.2.2.2.2.2.2]
def readR (b : List Int) : TRequest × List Int × Bool := match takes 7 b with
  | none => (zq, [], false)
  | some (ns, r) => if mayR (rqOf ns) = true then (rqOf ns, r, true) else (zq, [], false)
theorem nums_rqOf {ns : List Int} (h : ns.length = 7) : nums (rqOf ns) = ns := by
  match ns, h with
  | [a, b, c, d, e, f, g], _ => rfl
theorem read_ev (b : List Int) (hb : Byt b) (hl : b.length ≤ 9223372036854775000) : Ev1 (fun k => CF k sRead n_request_Read [inj (.slice (.int .u8)) b]) (readR b) := by
  refine Ev1.step (fun k => f_request_Read k b) (Ev1.bind (take_ev b 7 (by omega) hb hl) ?_)
  unfold readR
  cases ht : takes 7 b with
  | none => exact Ev1.pos rfl (Ev1.now _)
  | some p =>
    obtain ⟨ns, r⟩ := p
    obtain ⟨_, h2, _⟩ := takes_sound hb ht
    refine Ev1.neg rfl ?_
    dsimp only [ansT]
    rw [inb_true (n := ns.length) (show (0 : Int) ≤ 0 by omega) (by omega), inb_true (n := ns.length) (show (0 : Int) ≤ 1 by omega) (by omega), inb_true (n := ns.length) (show (0 : Int) ≤ 2 by omega) (by omega), inb_true (n := ns.length) (show (0 : Int) ≤ 3 by omega) (by omega),
      inb_true (n := ns.length) (show (0 : Int) ≤ 4 by omega) (by omega), inb_true (n := ns.length) (show (0 : Int) ≤ 5 by omega) (by omega), inb_true (n := ns.length) (show (0 : Int) ≤ 6 by omega) (by omega)]
    simp only [cond_true]
    refine Ev1.bind (may_ev (rqOf ns)) ?_
    show Ev1 (fun k => bif !mayR (rqOf ns) then _ else _) _
    cases hm : mayR (rqOf ns) with
    | false => exact Ev1.pos rfl (Ev1.now _)
    | true => exact Ev1.neg rfl (Ev1.now _)
theorem readR_nums (x : TRequest) (r : List Int) (h : I64 (nums x)) : readR (encs (nums x) ++ r) = if mayR x = true then (x, r, true) else (zq, [], false) := by
  unfold readR
  rw [show takes 7 (encs (nums x) ++ r) = some (nums x, r) from takes_encs (ns := nums x) r h]
  rfl
theorem readR_sound {b : List Int} (hb : Byt b) : (readR b).2.2 = true → mayR (readR b).1 = true ∧ I64 (nums (readR b).1) ∧ encs (nums (readR b).1) ++ (readR b).2.1 = b := by
  unfold readR
  cases ht : takes 7 b with
  | none => intro h; cases h
  | some p =>
    obtain ⟨ns, r⟩ := p
    obtain ⟨h1, h2, h3⟩ := takes_sound hb ht
    dsimp only
    by_cases hm : mayR (rqOf ns) = true
    · rw [if_pos hm]
      intro _
      dsimp only
      rw [nums_rqOf h2]
      exact ⟨hm, h3, h1.symm⟩
    · rw [if_neg hm]; intro h; cases h
theorem readR_byt {b : List Int} (hb : Byt b) : Byt (readR b).2.1 ∧ (readR b).2.1.length ≤ b.length := by
  cases hq : (readR b).2.2 with
  | true =>
    obtain ⟨_, _, h⟩ := readR_sound hb hq
    have hb' := hb
    rw [← h] at hb'
    refine ⟨hb'.right, ?_⟩
    have := congrArg List.length h
    rw [List.length_append] at this
    omega
  | false =>
    have : (readR b).2.1 = [] := by
      unfold readR at hq ⊢
      split
      · rfl
      · rename_i ns r ht
        rw [ht] at hq
        dsimp only at hq
        split
        · rename_i hm; rw [if_pos hm] at hq; cases hq
        · rfl
    rw [this]; exact ⟨Byt.nil, by simp⟩
theorem bytes_ev' (r : TRequest) (h : I64 (nums r)) : Ev1 (fun k => CF k sBy n_request_Bytes [inj KRequest r]) (encs (nums r)) := bytes_ev r h
/-- A round of RequestRead. -/
theorem read_round (y : List Int) (hy : Byt y) (hl : y.length ≤ 140737488351232) (l : List (List Int)) (i : Nat) (hi : i < 2) (hl2 : l.length = 2) (hyi : l.getD i [] = y) (R : Bool) (hn : Ev2 (fun k m => h_law10_RequestRead k m 2 ((i + 1 : Nat) : Int) l) R) :
    Ev2 (fun k m => h_law10_RequestRead k m 2 (i : Int) l) R := by
  refine Ev2.step (fun k m => h_law10_RequestRead_s k m 2 (i : Int) l) (Ev2.posD (by omega) (Ev2.pos (inb_true (by omega) (by omega)) ?_))
  rw [Int.toNat_natCast, hyi, wnat (by omega)]
  refine Ev2.bind (read_ev y hy (by omega)) ?_
  cases hq : (readR y).2.2 with
  | false => exact Ev2.neg rfl hn
  | true =>
    obtain ⟨h1, h2, h3⟩ := readR_sound hy hq
    refine Ev2.pos rfl (Ev2.bind (lawmay_ev (readR y).1) (Ev2.neg ?_ (Ev2.bind (bytes_ev' _ h2) (Ev2.posD ?_ (Ev2.neg ?_ hn)))))
    · show (!mayR (readR y).1) = false
      rw [h1]; rfl
    · have := congrArg List.length h3
      rw [List.length_append] at this
      omega
    · rw [h3, decide_eq_true rfl]; rfl
theorem set_byt {l : List Int} (h : Byt l) (i : Nat) {v : Int} (hv : 0 ≤ v ∧ v ≤ 255) : Byt (l.set i v) := by
  intro x hx
  rcases List.mem_or_eq_of_mem_set hx with q | q
  · exact h x q
  · rw [q]; exact hv
theorem wrapb8 (op : BinOp) (x y : Int) : 0 ≤ wrapb .u8 op x y ∧ wrapb .u8 op x y ≤ 255 := by
  unfold wrapb
  have : ∀ z : Int, 0 ≤ IntKind.u8.wrap z ∧ IntKind.u8.wrap z ≤ 255 := by
    intro z
    have := w8_mod z
    unfold w8 at this
    omega
  exact this _
theorem RequestRead (b : List Int) (a : TAsk) (at_ by_ : Int) (hb : Byt b) (hl : b.length ≤ 140737488351232) (ha : okA a) (hat : 0 ≤ at_ ∧ at_ ≤ 255) : Ev1 (fun k => CF k sBo n_law10_RequestRead [inj (.slice (.int .u8)) b, inj KAsk a, inj (.int .u8) at_, inj (.int .u8) by_]) true := by
  obtain ⟨x, hx, hA⟩ := ask_ev' a ha
  refine Ev1.step (fun k => f_law10_RequestRead k b a at_ by_) (Ev1.bind awake_ev (Ev1.neg rfl (Ev1.bind hx (Ev1.bind (bytes_ev' x hA.range) ?_))))
  have hlen : 0 < (encs (nums x)).length := by
    have := enc_ne (zig x.1)
    have := List.length_pos_iff.2 this
    simp only [nums, encs, List.length_append]
    omega
  have hb2 : Byt (encs (nums x)) := encs_byt _
  have hlen2 := encs_len (ns := nums x) hA.range
  have hlen3 : (nums x).length = 7 := rfl
  generalize encs (nums x) = z at hlen hb2 hlen2 ⊢
  have ht := tmod_facts (a := at_) (b := z.length) hat.1 (by omega)
  rw [show w64 at_ = at_ from w64_id (by omega)]
  generalize Int.tmod at_ z.length = j at ht ⊢
  refine Ev1.pos (by rw [decide_eq_false (by omega)]; rfl) (Ev1.pos (by rw [decide_eq_false (by omega)]; rfl) (Ev1.pos (inb_true ht.1 ht.2.1) (Ev1.pos (inb_true ht.1 ht.2.1) ?_)))
  have hz2 : Byt (z.set j.toNat (wrapb .u8 .xor (z.getD j.toNat 0) by_)) := set_byt hb2 _ (wrapb8 _ _ _)
  have hz3 : (z.set j.toNat (wrapb .u8 .xor (z.getD j.toNat 0) by_)).length = z.length := List.length_set
  generalize z.set j.toNat (wrapb .u8 .xor (z.getD j.toNat 0) by_) = w at hz2 hz3 ⊢
  refine Ev2.diag (f := fun k m => h_law10_RequestRead k m (([b, w].length : Nat) : Int) 0 [b, w]) ?_
  refine read_round b hb hl [b, w] 0 (by omega) rfl rfl true (read_round w hz2 (by omega) [b, w] 1 (by omega) rfl rfl true ?_)
  exact Ev2.step (fun k m => h_law10_RequestRead_s k m 2 _ [b, w]) (Ev2.negD (by omega) (Ev2.now _))
theorem and7 (x y : TRequest) : (decide (x.1 = y.1) && (decide (x.2.1 = y.2.1) && (decide (x.2.2.1 = y.2.2.1) && (decide (x.2.2.2.1 = y.2.2.2.1) && (decide (x.2.2.2.2.1 = y.2.2.2.2.1) && (decide (x.2.2.2.2.2.1 = y.2.2.2.2.2.1) && (decide (x.2.2.2.2.2.2 = y.2.2.2.2.2.2) && true))))))) = decide (x = y) := by
  obtain ⟨x1, x2, x3, x4, x5, x6, x7⟩ := x
  obtain ⟨y1, y2, y3, y4, y5, y6, y7⟩ := y
  simp only [Bool.and_true, ← Bool.decide_and]
  exact decide_eq_decide.2 (by simp)
/-- A round of RequestBack. -/
theorem back_round (x : TRequest) (hx : I64 (nums x)) (rest : List Int) (hr : Byt rest) (hl : rest.length ≤ 140737488351232) (l : List TRequest) (i : Nat) (hi : i < 2) (hl2 : l.length = 2) (hxi : l.getD i (0, 0, 0, 0, 0, 0, 0) = x) (R : Bool) (hn : Ev2 (fun k m => h_law10_RequestBack k m rest 2 ((i + 1 : Nat) : Int) l) R) :
    Ev2 (fun k m => h_law10_RequestBack k m rest 2 (i : Int) l) R := by
  refine Ev2.step (fun k m => h_law10_RequestBack_s k m rest 2 (i : Int) l) (Ev2.posD (by omega) (Ev2.pos (inb_true (by omega) (by omega)) ?_))
  rw [Int.toNat_natCast, hxi, wnat (by omega)]
  have hlen2 := encs_len (ns := nums x) hx
  have hlen3 : (nums x).length = 7 := rfl
  refine Ev2.bind (bytes_ev' x hx) (Ev2.bind (all_ev (nums x) hx (by omega)) (Ev2.neg (by rw [decide_eq_true rfl]; rfl) (Ev2.posD (by omega) (Ev2.bind (read_ev (encs (nums x) ++ rest) (Byt.append (encs_byt _) hr) (by simp; omega)) (Ev2.bind (lawmay_ev x) ?_)))))
  rw [readR_nums x rest hx]
  show Ev2 (fun k m => bif !((if mayR x = true then (x, rest, true) else (zq, [], false)).2.2 == mayR x) then _ else _) R
  simp only [and7]
  cases hm : mayR x with
  | true =>
    simp only [if_true]
    refine Ev2.neg rfl (Ev2.pos rfl (Ev2.neg ?_ (Ev2.neg ?_ (Ev2.neg rfl hn))))
    · rfl
    · rfl
  | false =>
    simp only [Bool.false_eq_true, if_false]
    exact Ev2.neg rfl (Ev2.neg rfl (Ev2.pos rfl (Ev2.neg rfl (Ev2.neg rfl hn))))
theorem RequestBack (a : TAsk) (r : TRequest) (rest : List Int) (ha : okA a) (hr : I64 (nums r)) (hb : Byt rest) (hl : rest.length ≤ 140737488351232) : Ev1 (fun k => CF k sBo n_law10_RequestBack [inj KAsk a, inj KRequest r, inj (.slice (.int .u8)) rest]) true := by
  obtain ⟨x, hx, hA⟩ := ask_ev' a ha
  refine Ev1.step (fun k => f_law10_RequestBack k a r rest) (Ev1.bind awake_ev (Ev1.neg rfl (Ev1.bind hx ?_)))
  refine Ev2.diag (f := fun k m => h_law10_RequestBack k m rest (([x, r].length : Nat) : Int) 0 [x, r]) ?_
  refine back_round x hA.range rest hb hl [x, r] 0 (by omega) rfl rfl true (back_round r hr rest hb hl [x, r] 1 (by omega) rfl rfl true ?_)
  exact Ev2.step (fun k m => h_law10_RequestBack_s k m rest 2 _ [x, r]) (Ev2.negD (by omega) (Ev2.now _))
/-! Replies. -/
abbrev sRR : Sig := ⟨[(false, KReply), (false, .slice (.int .u8)), (false, .bool)], []⟩
abbrev zp : TReply := (0, 0)
def okN (n : Int) : Bool := decide (0 ≤ n ∧ n ≤ 13)
def readP (b : List Int) : TReply × List Int × Bool := match takes 2 b with
  | none => (zp, [], false)
  | some (ns, r) => if okN (ns.getD 0 0) = true then ((ns.getD 0 0, ns.getD 1 0), r, true) else (zp, [], false)
theorem readP_ev (b : List Int) (hb : Byt b) (hl : b.length ≤ 9223372036854775000) : Ev1 (fun k => CF k sRR n_request_ReadReply [inj (.slice (.int .u8)) b]) (readP b) := by
  refine Ev1.step (fun k => f_request_ReadReply k b) (Ev1.bind (take_ev b 2 (by omega) hb hl) ?_)
  unfold readP
  cases ht : takes 2 b with
  | none => exact Ev1.pos rfl (Ev1.now _)
  | some p =>
    obtain ⟨ns, r⟩ := p
    obtain ⟨_, h2, _⟩ := takes_sound hb ht
    refine Ev1.neg rfl ?_
    dsimp only [ansT]
    rw [inb_true (n := ns.length) (show (0 : Int) ≤ 0 by omega) (by omega), inb_true (n := ns.length) (show (0 : Int) ≤ 1 by omega) (by omega)]
    simp only [cond_true]
    unfold okN
    by_cases h0 : ns.getD 0 0 < 0
    · rw [if_neg (by rw [decide_eq_true_eq]; omega)]
      exact Ev1.posD h0 (Ev1.now _)
    · refine Ev1.negD h0 ?_
      by_cases h1 : 13 < ns.getD 0 0
      · rw [if_neg (by rw [decide_eq_true_eq]; omega)]
        exact Ev1.posD h1 (Ev1.now _)
      · rw [if_pos (decide_eq_true (by omega))]
        exact Ev1.negD h1 (Ev1.now _)
theorem readP_encs (n i : Int) (r : List Int) (h : I64 [n, i]) : readP (encs [n, i] ++ r) = if okN n = true then ((n, i), r, true) else (zp, [], false) := by
  unfold readP
  rw [show takes 2 (encs [n, i] ++ r) = some ([n, i], r) from takes_encs (ns := [n, i]) r h]
  rfl
theorem readP_sound {b : List Int} (hb : Byt b) : ((readP b).2.2 = true → I64 [(readP b).1.1, (readP b).1.2] ∧ encs [(readP b).1.1, (readP b).1.2] ++ (readP b).2.1 = b) ∧ ((readP b).2.2 = false → readP b = (zp, [], false)) := by
  unfold readP
  cases ht : takes 2 b with
  | none => exact ⟨fun h => (by cases h), fun _ => rfl⟩
  | some p =>
    obtain ⟨ns, r⟩ := p
    obtain ⟨h1, h2, h3⟩ := takes_sound hb ht
    dsimp only
    by_cases hm : okN (ns.getD 0 0) = true
    · rw [if_pos hm]
      refine ⟨fun _ => ?_, fun h => (by cases h)⟩
      match ns, h2 with
      | [x, y], _ => exact ⟨h3, h1.symm⟩
    · rw [if_neg hm]
      exact ⟨fun h => (by cases h), fun _ => rfl⟩
theorem reply_ev (x : TReply) (h : I64 [x.1, x.2]) : Ev1 (fun k => CF k sBy n_request_Reply [inj KReply x]) (encs [x.1, x.2]) :=
  Ev1.step (fun k => f_request_Reply k x) (Ev1.bind (all_ev [x.1, x.2] h (by simp)) (Ev1.now _))
/-- What is told of any bytes. -/
theorem reply_fin (b : List Int) (hb : Byt b) (hl : b.length ≤ 140737488351232) : Ev1 (fun k => (CF k sRR n_request_ReadReply [inj (.slice (.int .u8)) b]).bind fun (r_4 : TReply × (List (Int)) × Bool) =>
 (bif (!r_4.2.2) then (bif (decide (r_4.1.1 = (0 : Int)) && (decide (r_4.1.2 = (0 : Int)) && true)) then (bif decide ((r_4.2.1.length : Int) = (0 : Int)) then some true
 else (bif r_4.2.2 then ((CF k ⟨[(true, (.slice (.int .u8)))], []⟩ n_request_Reply [inj KReply r_4.1]).bind fun (r_5 : (List (Int))) =>
 (bif decide ((r_5.length + r_4.2.1.length) < 9223372036854775808) then some (decide ((r_5 ++ r_4.2.1) = b))
 else none))
 else some false))
 else (bif r_4.2.2 then ((CF k ⟨[(true, (.slice (.int .u8)))], []⟩ n_request_Reply [inj KReply r_4.1]).bind fun (r_5 : (List (Int))) =>
 (bif decide ((r_5.length + r_4.2.1.length) < 9223372036854775808) then some (decide ((r_5 ++ r_4.2.1) = b))
 else none))
 else some false))
 else (bif r_4.2.2 then ((CF k ⟨[(true, (.slice (.int .u8)))], []⟩ n_request_Reply [inj KReply r_4.1]).bind fun (r_5 : (List (Int))) =>
 (bif decide ((r_5.length + r_4.2.1.length) < 9223372036854775808) then some (decide ((r_5 ++ r_4.2.1) = b))
 else none))
 else some false))) true := by
  refine Ev1.bind (readP_ev b hb (by omega)) ?_
  obtain ⟨h1, h2⟩ := readP_sound hb
  cases hq : (readP b).2.2 with
  | false =>
    rw [h2 hq]
    exact Ev1.now _
  | true =>
    obtain ⟨h3, h4⟩ := h1 hq
    refine Ev1.neg rfl (Ev1.pos rfl (Ev1.bind (reply_ev _ h3) (Ev1.posD ?_ (Ev1.const (congrArg some (decide_eq_true h4))))))
    have := congrArg List.length h4
    rw [List.length_append] at this
    omega
theorem RequestReply (no id : Int) (rest b : List Int) (hn : I64 [no, id]) (hr : Byt rest) (hrl : rest.length ≤ 140737488351232) (hb : Byt b) (hl : b.length ≤ 140737488351232) :
    Ev1 (fun k => CF k sBo n_law10_RequestReply [inj I no, inj I id, inj (.slice (.int .u8)) rest, inj (.slice (.int .u8)) b]) true := by
  have hlen := encs_len (ns := [no, id]) hn
  simp only [List.length_cons, List.length_nil] at hlen
  refine Ev1.step (fun k => f_law10_RequestReply k no id rest b) (Ev1.bind awake_ev (Ev1.neg rfl (Ev1.bind (reply_ev (no, id) hn) ?_)))
  refine Ev1.posD (by dsimp only; omega) (Ev1.posD (by dsimp only; omega) (Ev1.bind (readP_ev (encs [no, id] ++ rest) (Byt.append (encs_byt _) hr) (by simp; omega)) ?_))
  rw [readP_encs no id rest hn]
  have hF := reply_fin b hb hl
  have hc : ∀ x : List Int, (!decide (x = x)) = false := fun x => by rw [decide_eq_true rfl]; rfl
  by_cases h0 : 0 ≤ no
  · refine Ev1.posD h0 (Ev1.bind (all_ev [no, id] hn (by simp)) (Ev1.neg (hc _) ?_))
    by_cases h1 : no ≤ 13
    · rw [show okN no = true from decide_eq_true ⟨h0, h1⟩, if_pos rfl, decide_eq_true h1]
      refine Ev1.neg rfl (Ev1.pos rfl (Ev1.neg ?_ (Ev1.neg (hc _) hF)))
      simp
    · rw [show okN no = false from decide_eq_false (by omega), if_neg (by decide), decide_eq_false h1]
      exact Ev1.neg rfl (Ev1.neg rfl hF)
  · refine Ev1.negD h0 (Ev1.bind (all_ev [no, id] hn (by simp)) (Ev1.neg (hc _) ?_))
    rw [show okN no = false from decide_eq_false (by omega), if_neg (by decide)]
    exact Ev1.neg rfl (Ev1.neg rfl hF)
/-! Bounds, as a law's row tells them. -/
theorem okA_of (a : TAsk) (h : (Lit.int .u8 a.1).wf = true ∧ (Lit.int .u8 a.2.1).wf = true ∧ (Lit.int .u8 a.2.2.1).wf = true ∧ (Lit.int .u8 a.2.2.2.1).wf = true ∧ (Lit.int .u16 a.2.2.2.2.1).wf = true ∧ (Lit.int .u8 a.2.2.2.2.2.1).wf = true ∧ (Lit.int .u8 a.2.2.2.2.2.2).wf = true) : okA a :=
  ⟨wf_u8 h.1, wf_u8 h.2.1, wf_u8 h.2.2.1, wf_u8 h.2.2.2.1, wf_u16 h.2.2.2.2.1, wf_u8 h.2.2.2.2.2.1, wf_u8 h.2.2.2.2.2.2⟩
theorem okR_of (a : TRequest) (h : (Lit.int .i64 a.1).wf = true ∧ (Lit.int .i64 a.2.1).wf = true ∧ (Lit.int .i64 a.2.2.1).wf = true ∧ (Lit.int .i64 a.2.2.2.1).wf = true ∧ (Lit.int .i64 a.2.2.2.2.1).wf = true ∧ (Lit.int .i64 a.2.2.2.2.2.1).wf = true ∧ (Lit.int .i64 a.2.2.2.2.2.2).wf = true) : I64 (nums a) := by
  intro x hx
  simp only [nums, List.mem_cons, List.not_mem_nil, or_false] at hx
  rcases hx with rfl | rfl | rfl | rfl | rfl | rfl | rfl
  · exact wf_i64 h.1
  · exact wf_i64 h.2.1
  · exact wf_i64 h.2.2.1
  · exact wf_i64 h.2.2.2.1
  · exact wf_i64 h.2.2.2.2.1
  · exact wf_i64 h.2.2.2.2.2.1
  · exact wf_i64 h.2.2.2.2.2.2
theorem okB_of (l : List Int) (h : l.length * 1 ≤ 140737488351232 ∧ ∀ x ∈ l, (Lit.int .u8 x).wf = true) : Byt l ∧ l.length ≤ 140737488351232 := ⟨fun x hx => wf_u8 (h.2 x hx), by omega⟩
theorem okP_of (n i : Int) (h : (Lit.int .i64 n).wf = true) (h2 : (Lit.int .i64 i).wf = true) : I64 [n, i] := by
  intro x hx
  simp only [List.mem_cons, List.not_mem_nil, or_false] at hx
  rcases hx with rfl | rfl
  · exact wf_i64 h
  · exact wf_i64 h2
end Go.Eng.Req
