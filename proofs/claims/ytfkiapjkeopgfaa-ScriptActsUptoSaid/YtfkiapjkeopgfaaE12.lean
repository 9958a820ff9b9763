/- Indices of values, conversions without memory, lengths, moves. -/
import Derived.Test.YtfkiapjkeopgfaaE11
set_option linter.all false
set_option linter.unusedVariables false
set_option linter.unusedSimpArgs false
set_option linter.deprecated false
set_option maxRecDepth 4096
namespace Go.Eng
open Go.RowKit
section
variable {P : Program} {A : Ann} {fid : Nat} {w0 : World} {M : MS} {c : Cx} {ρ : Operand → AV} {r : Operand → Value} {hp : Nat → Option Obj} {o : Oper} {v : AV} {u : Upd}
theorem core_index (hm : Mem w0 M c) (hr : ∀ x, RepV c (ρ x) (r x)) {t : TypeId} {x ix : Operand} (ho : o.op = .index t x ix) (h : core P A fid ρ hp o = .ok true v u) :
    StepOk w0 M c ((execOp r o).run P c.w) v u := by
  simp only [core, ho] at h
  simp only [execOp, ho]
  have hx := hr x
  split at h
  · rename_i s ki i hu ex hi
    obtain ⟨ei, _⟩ := slot_rep hr hi
    simp only [Out.ok.injEq] at h
    obtain ⟨hin, rfl, rfl⟩ := h
    have hin := inb_iff.1 hin
    rw [ex] at hx
    obtain ⟨sb, es, rfl⟩ := repV_inv hx
    rw [bytesOf_length] at hin
    have hlt : i.toNat < sb.data.size := by have : sb.size = sb.data.size := rfl; omega
    have hb : (bytesOf sb).getD i.toNat 0 = ((sb.data[i.toNat]).toNat : Int) := by
      rw [List.getD_eq_getElem?_getD, bytesOf_get, List.getElem?_eq_getElem (by simpa using hlt)]; simp
    refine .quiet hm (run_val (v := .int .u8 (sb.data[i.toNat]).toNat) ?_) (repV_one ?_)
    · rw [es, ei]
      unfold Instr.index
      rw [run_ok (show (asIntOf (.int ki i)).run P c.w = .ok (ki, i) c.w from rfl)]
      simp only []
      rw [run_ok (run_underlying hu c.w)]
      simp only []
      have : (if 0 ≤ i then sb[i.toNat]? else none) = some (sb.data[i.toNat]) := by
        rw [if_pos hin.1]
        exact getElem?_pos sb i.toNat hlt
      rw [this]; rfl
    · simp only [RepS]
      rw [hb]
      refine ⟨rfl, ?_⟩
      have := (sb.data[i.toNat]).toNat_lt
      simp [okI, okB]; omega
  · rename_i n e cs ki i hu ex hi
    obtain ⟨ei, _⟩ := slot_rep hr hi
    rw [ex] at hx
    obtain ⟨arr, es, hl⟩ := hx
    split at h
    · rename_i sz hsz
      split at h
      · rename_i l hg
        split at h
        · rename_i v' hv
          simp only [Out.ok.injEq] at h
          obtain ⟨hin, rfl, rfl⟩ := h
          have hin := inb_iff.1 hin
          have hget := getP_get _ _ _ hg (by intro s hs; simp at hs; subst hs; exact hin)
          obtain ⟨vs, q1, q2⟩ := hl.sub hget
          have e0 : pathOff [PStep.idx n sz i] = i.toNat * sz := by simp [pathOff, stepOff]
          obtain ⟨x', p1, p2⟩ := run_partV (P := P) hv q1 (arr := arr) (off := i.toNat * sz) (fun j u hu => by
            have := q2 j u hu
            rw [e0] at this
            rw [← Array.getElem?_toList]; exact this)
          refine .quiet hm (run_val (v := x') ?_) p2
          rw [es, ei]
          unfold Instr.index
          rw [run_ok (show (asIntOf (.int ki i)).run P c.w = .ok (ki, i) c.w from rfl)]
          simp only []
          rw [run_ok (run_underlying hu c.w)]
          simp only []
          rw [if_pos hin, run_ok (run_sizeOf hsz c.w)]; exact p1
        · cases h
      · cases h
    · cases h
  · cases h
theorem loop_bytes {P : Program} {w : World} : ∀ (vs : List Value) (ns : List Int) (s : ByteArray), LR (fun v n => v = Value.int .u8 n ∧ okI .u8 n) vs ns →
    (forIn vs s (fun cc (s : ByteArray) => (match cc with
      | .int .u8 n => pure (ForInStep.yield (s.push (UInt8.ofNat n.toNat)))
      | _ => stuck "bytesToString: byte expected" : Sem (ForInStep ByteArray)))).run P w = .ok ⟨(s.data ++ (ns.map fun n => UInt8.ofNat n.toNat).toArray)⟩ w
  | [], [], s, _ => by rw [List.forIn_nil]; simp
  | v :: r, n :: ns, s, h => by
    obtain ⟨⟨rfl, hn⟩, hr⟩ := h
    rw [List.forIn_cons]
    simp only []
    rw [run_pb]
    simp only []
    rw [loop_bytes r ns _ hr]
    simp [ByteArray.push]
  | [], _ :: _, _, h => h.elim
  | _ :: _, [], _, h => h.elim
theorem bytes_back : ∀ (ns : List Int), (∀ n ∈ ns, okI .u8 n) → (ns.map fun n => UInt8.ofNat n.toNat).map (fun c => (c.toNat : Int)) = ns
  | [], _ => rfl
  | n :: r, h => by
    have h1 := h n (by simp)
    simp [okI, okB] at h1
    simp only [List.map_cons]
    rw [bytes_back r (fun m hm => h m (by simp [hm]))]
    congr 1
    rw [UInt8.toNat_ofNat']
    omega
/-- Bytes that a slice shows, as a string. -/
theorem run_bytesToString {P : Program} {c : Cx} {ids : List Nat} {ys : List Int} {v : Value} (h : Vis c ids (.int .u8) ys v) : ∃ sb, (Conv.bytesToString v).run P c.w = .ok (.string sb) c.w ∧ bytesOf sb = ys := by
  obtain ⟨a, cap, rfl, hle, hx⟩ := h
  unfold Conv.bytesToString
  cases a with
  | none =>
    have : ys = [] := by
      cases ys with
      | nil => rfl
      | cons y r => obtain ⟨ad, e, _⟩ := hx (by simp); cases e
    subst this
    exact ⟨.empty, rfl, rfl⟩
  | some ad =>
    have hok : ∀ n ∈ ys, okI .u8 n := by
      intro n hn
      obtain ⟨i, hi⟩ := List.mem_iff_getElem?.1 hn
      obtain ⟨_, _, _, _, h4⟩ := hx (by rintro rfl; simp at hn)
      obtain ⟨vs, h5, _⟩ := h4 i n hi
      exact h5.2
    have hat : At c.w ad.block ad.off (ys.map (Value.int .u8)) := by
      intro j v hj
      rw [List.getElem?_map] at hj
      cases hy : ys[j]? with
      | none => rw [hy] at hj; cases hj
      | some n =>
        rw [hy] at hj
        simp at hj; subst hj
        obtain ⟨ad', e, h2, h3, h4⟩ := hx (by rintro rfl; simp at hy)
        cases e
        obtain ⟨vs, h5, h6⟩ := h4 j n hy
        obtain ⟨rfl, _⟩ := h5
        have := h6 0 _ rfl
        simpa [K.size] using this
    have hl : (loadCells ad ys.length).run P c.w = .ok (ys.map (Value.int .u8)).toArray c.w := by
      by_cases hne : ys = []
      · subst hne; rfl
      · obtain ⟨ad', e, h2, _⟩ := hx hne
        cases e
        obtain ⟨b, o, sp⟩ := ad
        simp at h2; subst h2
        have := run_loadCells (P := P) hat
        simpa using this
    refine ⟨⟨(ys.map fun n => UInt8.ofNat n.toNat).toArray⟩, ?_, ?_⟩
    · simp only []
      rw [run_ok hl]
      rw [← Array.forIn_toList]
      have hlr : LR (fun v n => v = Value.int .u8 n ∧ okI .u8 n) (ys.map (Value.int .u8)) ys := by
        refine LR.of_get (by simp) fun i a b h1 h2 => ?_
        rw [List.getElem?_map, h2] at h1
        simp at h1
        exact ⟨h1.symm, hok b (List.mem_of_getElem? h2)⟩
      have := loop_bytes (P := P) (w := c.w) _ ys ByteArray.empty hlr
      have e2 : (ByteArray.empty.data ++ (ys.map fun n => UInt8.ofNat n.toNat).toArray) = (ys.map fun n => UInt8.ofNat n.toNat).toArray := by
        show #[] ++ _ = _
        simp
      rw [e2] at this
      refine (run_ok (a := (⟨(ys.map fun n => UInt8.ofNat n.toNat).toArray⟩ : ByteArray)) ?_).trans rfl
      exact this
    · simp only [bytesOf]
      exact bytes_back ys hok
theorem core_convert_quiet (hm : Mem w0 M c) (hh : ∀ id o, hp id = some o → c.hp id = some o) (hr : ∀ x, RepV c (ρ x) (r x)) {st dt : TypeId} {x : Operand} (ho : o.op = .convert st dt x) (hs : ∀ s e, ¬ (slot x ρ = some (.str s) ∧ P.underlying dt = some (.slice e))) (hs2 : ∀ id g e0 e, ¬ (slot x ρ = some (.vw id g) ∧ P.underlying st = some (.slice e0) ∧ P.underlying dt = some (.slice e))) (h : core P A fid ρ hp o = .ok true v u) :
    StepOk w0 M c ((execOp r o).run P c.w) v u := by
  simp only [core, ho] at h
  simp only [execOp, ho]
  split at h
  · rename_i ki n td k hx hsu hdu
    obtain ⟨e, _⟩ := slot_rep hr hx
    simp only [okv, Out.ok.injEq, true_and] at h
    obtain ⟨rfl, rfl⟩ := h
    refine .quiet hm (run_val (v := .int k (k.wrap n)) ?_) (repV_one ⟨rfl, okI_wrap _ _⟩)
    rw [e]
    unfold convert
    rw [run_ok (run_underlying hsu c.w), run_ok (run_underlying hdu c.w)]
    cases td <;> rfl
  · rename_i s td hx hsu hdu
    obtain ⟨sb, e, rfl⟩ := slot_rep hr hx
    simp only [okv, Out.ok.injEq, true_and] at h
    obtain ⟨rfl, rfl⟩ := h
    refine .quiet hm (run_val (v := .string sb) ?_) (repV_one ⟨_, rfl, rfl⟩)
    rw [e]
    unfold convert
    rw [run_ok (run_underlying hsu c.w), run_ok (run_underlying hdu c.w)]
    cases td <;> rfl
  · rename_i s td e hx hsu hdu
    exact (hs s e ⟨hx, hdu⟩).elim
  · rename_i s e _ hx hsu hdu
    have hrs := slot_rep hr hx
    split at h
    · rename_i heu
      have conv : ∀ {a : Option Addr} {n cap : Nat}, r x = .slice a n cap → (convert st dt (r x)).run P c.w = (Conv.bytesToString (r x)).run P c.w := by
        intro a n cap hv
        rw [hv]
        unfold convert
        rw [run_ok (run_underlying hsu c.w), run_ok (run_underlying hdu c.w)]
        simp only []
        rw [run_ok (run_underlying heu c.w)]
      split at h
      · rename_i hro
        simp only [okv, Out.ok.injEq, true_and] at h
        obtain ⟨rfl, rfl⟩ := h
        have hv := view_nil hro hrs
        refine .quiet hm (run_val (v := .string .empty) ?_) (repV_one ⟨_, rfl, rfl⟩)
        rw [conv hv, hv]; rfl
      · rename_i k xs hro
        split at h
        · rename_i ys hc
          simp only [okv, Out.ok.injEq, true_and] at h
          obtain ⟨rfl, rfl⟩ := h
          obtain ⟨rfl, rfl⟩ := cst_some hc
          have hvis := view_vis hm hh hro hrs
          obtain ⟨sb, q1, q2⟩ := run_bytesToString (P := P) hvis
          obtain ⟨a, cap, q3, _⟩ := hvis
          refine .quiet hm (run_val (v := .string sb) ?_) (repV_one ⟨sb, rfl, q2⟩)
          rw [conv q3]; exact q1
        · cases h
      · cases h
    · cases h
  · rename_i id g e0 e hx hsu hdu
    exact (hs2 id g e0 e ⟨hx, hsu, hdu⟩).elim
  · cases h
theorem foldI_run {P : Program} {w : World} {f : Int → Int → Int} {g : Value → Value → Sem Value} (hg : ∀ k x k' y, (g (.int k x) (.int k' y)).run P w = .ok (.int k (f x y)) w) (hf : ∀ x y, f x y = x ∨ f x y = y) {k : IntKind} {c : Cx} :
    ∀ (l : List AV) (vs : List Value) (n m : Int), LR (RepV c) l vs → okI k n → foldI f k n l = some m → okI k m ∧ (vs.foldlM g (.int k n)).run P w = .ok (.int k m) w
  | [], [], n, m, _, hn, h => by simp [foldI] at h; subst h; exact ⟨hn, rfl⟩
  | a :: l, v :: vs, n, m, hl, hn, h => by
    cases a with
    | undef => simp [foldI] at h
    | tup _ => simp [foldI] at h
    | val gg cs =>
      match gg, cs, hl, h with
      | false, [.int k' m'], hl, h =>
        simp only [foldI] at h
        by_cases e : k' = k
        · subst e
          simp only [decide_true, cond_true] at h
          obtain ⟨rfl, hok⟩ := repV_inv hl.1
          have hn' : okI k' (f n m') := by rcases hf n m' with q | q <;> rw [q] <;> assumption
          obtain ⟨q1, q2⟩ := foldI_run hg hf l vs (f n m') m hl.2 hn' h
          refine ⟨q1, ?_⟩
          rw [List.foldlM_cons, run_ok (hg _ _ _ _)]; exact q2
        · simp [e] at h
      | true, _, _, h => simp [foldI] at h
      | false, [], _, h => simp [foldI] at h
      | false, _ :: _ :: _, _, h => simp [foldI] at h
      | false, [.undef], _, h | false, [.bool _], _, h | false, [.str _], _, h | false, [.err _], _, h | false, [.fn _], _, h | false, [.nilS], _, h | false, [.sl ..], _, h | false, [.vw ..], _, h | false, [.pv ..], _, h | false, [.ptr ..], _, h | false, [.ipt ..], _, h | false, [.mv ..], _, h | false, [.io ..], _, h => simp [foldI] at h
  | [], _ :: _, _, _, h, _, _ => h.elim
  | _ :: _, [], _, _, h, _, _ => h.elim
theorem slot1_rep {c : Cx} {a : AV} {s : S} {v : Value} (h : slot1 a = some s) (hr : RepV c a v) : RepS c s v := by
  unfold slot1 at h
  split at h
  · simp only [Option.some.injEq] at h; subst h; exact repV_inv hr
  · cases h
theorem foldB_ok {P : Program} {c : Cx} {f : Int → Int → Int} {g : Value → Value → Sem Value} (hg : ∀ k x k' y, (g (.int k x) (.int k' y)).run P c.w = .ok (.int k (f x y)) c.w) (hf : ∀ x y, f x y = x ∨ f x y = y)
    {args : List AV} {vs : List Value} {v : AV} {u : Upd} (ha : LR (RepV c) args vs) (h : foldB f args = .ok true v u) : ∃ x r q, vs = x :: r ∧ (r.foldlM g x).run P c.w = .ok q c.w ∧ RepV c v q ∧ u = [] := by
  unfold foldB at h
  split at h
  · rename_i k n r
    split at h
    · rename_i m hm'
      simp only [okv, Out.ok.injEq, true_and] at h
      obtain ⟨rfl, rfl⟩ := h
      match vs, ha with
      | x :: vr, ha =>
        obtain ⟨rfl, hok⟩ := repV_inv ha.1
        obtain ⟨q1, q2⟩ := foldI_run hg hf r vr n m ha.2 hok hm'
        exact ⟨_, _, _, rfl, q2, repV_one ⟨rfl, q1⟩, rfl⟩
    · cases h
  · cases h
theorem builtin_quiet {P : Program} {w0 : World} {M : MS} {c : Cx} {hp : Nat → Option Obj} (hm : Mem w0 M c) (hh : ∀ id o, hp id = some o → c.hp id = some o) {dst : Option Nat} {ats : Array TypeId} {ty : TypeId} {args : List AV} {vs : Array Value} {v : AV} {u : Upd} {b : Builtin} (hb : b ≠ .append)
    (ha : LR (RepV c) args vs.toList) (h : builtinS P hp dst b ats.toList args = .ok true v u) (cs : Array Bool) : StepOk w0 M c ((builtin b ats ty cs vs).run P c.w) v u := by
  unfold builtinS at h
  cases b with
  | append => exact (hb rfl).elim
  | len =>
    simp only [] at h
    split at h
    · rename_i t a hats
      split at h
      · rename_i s hs
        match hvs : vs.toList, ha with
        | [x], ha =>
          have hx := slot1_rep hs ha.1
          have hv0 : vs[0]? = some x := by rw [← Array.getElem?_toList, hvs]; rfl
          have ht0 : ats[0]? = some t := by rw [← Array.getElem?_toList]; exact hats
          unfold lenS at h
          split at h
          · rename_i hu
            split at h
            · obtain ⟨sb, rfl, rfl⟩ := hx
              simp only [okv, Out.ok.injEq, true_and] at h
              obtain ⟨rfl, rfl⟩ := h
              refine .quiet hm (v' := .int .i64 sb.size) ?_ (repV_one ⟨by rw [bytesOf_length], rfl⟩)
              unfold builtin
              simp only []
              refine run_val ?_
              unfold Builtin.len_
              simp only [ht0, hv0]
              rw [run_ok (run_underlying hu c.w)]; rfl
            · cases h
          · rename_i e hu
            have fin : ∀ (a : Option Addr) (n cap : Nat), x = .slice a n cap → (builtin .len ats ty cs vs).run P c.w = .ok (.value (.int .i64 n)) c.w := by
              rintro a n cap rfl
              unfold builtin
              simp only []
              refine run_val ?_
              unfold Builtin.len_
              simp only [ht0, hv0]
              rw [run_ok (run_underlying hu c.w)]; rfl
            split at h
            · rename_i hro
              simp only [okv, Out.ok.injEq, true_and] at h
              obtain ⟨rfl, rfl⟩ := h
              exact .quiet hm (fin _ _ _ (view_nil hro hx)) (repV_one ⟨rfl, rfl⟩)
            · rename_i k xs hro
              simp only [okv, Out.ok.injEq, true_and] at h
              obtain ⟨rfl, rfl⟩ := h
              obtain ⟨a, cap, e1, _⟩ := view_vis hm hh hro hx
              exact .quiet hm (fin _ _ _ e1) (repV_one ⟨rfl, rfl⟩)
            · cases h
          · cases h
      · cases h
    · cases h
  | min =>
    simp only [] at h
    obtain ⟨x, r, q, e1, e2, e3, rfl⟩ := foldB_ok (P := P) (g := Builtin.min2) (fun k x k' y => by unfold Builtin.min2 minI; by_cases q : y < x <;> simp [q] <;> rfl) (fun x y => by unfold minI; by_cases q : y < x <;> simp [q]) ha h
    refine .quiet hm (v' := q) ?_ e3
    unfold builtin
    simp only []
    refine run_val ?_
    unfold Builtin.min_
    rw [e1]; exact e2
  | max =>
    simp only [] at h
    obtain ⟨x, r, q, e1, e2, e3, rfl⟩ := foldB_ok (P := P) (g := Builtin.max2) (fun k x k' y => by unfold Builtin.max2 maxI; by_cases q : x < y <;> simp [q] <;> rfl) (fun x y => by unfold maxI; by_cases q : x < y <;> simp [q]) ha h
    refine .quiet hm (v' := q) ?_ e3
    unfold builtin
    simp only []
    refine run_val ?_
    unfold Builtin.max_
    rw [e1]; exact e2
  | _ => simp at h
end
end Go.Eng
