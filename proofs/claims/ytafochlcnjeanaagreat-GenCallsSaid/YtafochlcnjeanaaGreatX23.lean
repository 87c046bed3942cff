/- Runs by numbers: operations that leave the heap alone, all of them. For whatever program. -/
import Derived.Test.YtafochlcnjeanaaGreatX22
namespace Go.Proofs.YtafochlcnjeanaaGreat.E
open Go Go.RowKit X

/-! ### Lists -/
def nthG {α : Type} : List α → Nat → Option α
  | [], _ => none
  | v :: _, 0 => some v
  | _ :: l, k + 1 => nthG l k
theorem nthG_eq {α : Type} : ∀ (l : List α) (i : Nat), nthG l i = l[i]?
  | [], _ => rfl
  | _ :: _, 0 => rfl
  | _ :: l, k + 1 => by simp [nthG, nthG_eq l k]
theorem VRs.drop {R : Rel} : ∀ {xs : List EV} {vs : List Value} (n : Nat), VRs R xs vs → VRs R (xs.drop n) (vs.drop n)
  | _, _, 0, h => h
  | [], _, n + 1, h => by rw [show _ = [] from h]; exact rfl
  | _ :: _, _, n + 1, ⟨v, vs, e, _, k⟩ => by subst e; exact VRs.drop n k
theorem VRs.take {R : Rel} : ∀ {xs : List EV} {vs : List Value} (n : Nat), VRs R xs vs → VRs R (xs.take n) (vs.take n)
  | _, _, 0, _ => rfl
  | [], _, n + 1, h => by rw [show _ = [] from h]; exact rfl
  | _ :: _, _, n + 1, ⟨v, vs, e, k1, k⟩ => by subst e; exact ⟨v, vs.take n, rfl, k1, VRs.take n k⟩
def lay {α : Type} : List α → Nat → List α → Option (List α)
  | l, 0, [] => some l
  | [], _, _ => none
  | _ :: l, 0, u :: us => match lay l 0 us with
    | some l' => some (u :: l')
    | none => none
  | v :: l, k + 1, us => match lay l k us with
    | some l' => some (v :: l')
    | none => none
theorem lay_R {R : Rel} : ∀ {l l' : List EV} {k : Nat} {us : List EV} {vl vus : List Value}, lay l k us = some l' → VRs R l vl → VRs R us vus → ∃ vl', layL vl k vus = some vl' ∧ VRs R l' vl'
  | l, l', 0, [], vl, vus, h, hl, hu => by
    have hu : vus = [] := hu
    subst hu
    have : l' = l := by cases l <;> (simp only [lay] at h; cases h; rfl)
    subst this
    exact ⟨vl, by cases vl <;> rfl, hl⟩
  | [], l', 0, u :: us, vl, vus, h, hl, hu => by cases h
  | [], l', k + 1, us, vl, vus, h, hl, hu => by cases us <;> cases h
  | v :: l, l', 0, u :: us, vl, vus, h, ⟨a, as, e, k1, k2⟩, ⟨b, bs, e', k3, k4⟩ => by
    subst e e'
    simp only [lay] at h
    split at h
    · rename_i l2 h2
      cases h
      obtain ⟨vl', h3, h4⟩ := lay_R h2 k2 k4
      exact ⟨b :: vl', by simp [layL, h3], b, vl', rfl, k3, h4⟩
    · cases h
  | v :: l, l', k + 1, us, vl, vus, h, ⟨a, as, e, k1, k2⟩, hu => by
    subst e
    cases hl : lay l k us with
    | none => cases us <;> simp [lay, hl] at h
    | some l2 =>
      have e : l' = v :: l2 := by cases us <;> simp [lay, hl] at h <;> exact h.symm
      subst e
      obtain ⟨vl', h3, h4⟩ := lay_R hl k2 hu
      refine ⟨a :: vl', ?_, a, vl', rfl, k1, h4⟩
      cases vus <;> simp [layL, h3]
def fillE (place : Nat → Option (Nat × Nat)) : List EV → List (Nat × EV) → Option (List EV)
  | cells, [] => some cells
  | cells, (i, v) :: rest => match place i with
    | none => none
    | some (off, size) => match Nat.beq (cellsE v).length size && onesE (cellsE v) with
      | true => match lay cells off (cellsE v) with
        | some c' => fillE place c' rest
        | none => none
      | false => none
theorem nf_self : ∀ l : List Value, nf l = some l
  | [] => rfl
  | v :: l => by simp [nf, nf_self l]
theorem cellsE_R {R : Rel} {x : EV} {v : Value} (h : VR R x v) (ho : onesE (cellsE x) = true) : VRs R (cellsE x) (cellsL v) := by
  rw [← cellsL_eq]
  refine cellsE_VR h (fun u hu cs hc => ?_) (fun hx => ?_)
  · subst hu hc
    simp [cellsE, onesE, oneE] at ho
  · subst hx
    simp [cellsE, onesE, oneE] at ho
theorem fillE_R {R : Rel} {place : Nat → Option (Nat × Nat)} : ∀ {cells l' : List EV} {parts : List (Nat × EV)} {vc : List Value} {vp : List (Nat × Value)}, fillE place cells parts = some l' → VRs R cells vc → PRs R parts vp →
    ∃ vl', fillL place vc vp = some vl' ∧ VRs R l' vl'
  | cells, l', [], vc, vp, h, hc, hp => by
    have hp : vp = [] := hp
    subst hp
    simp only [fillE] at h
    cases h
    exact ⟨vc, by simp [fillL, nf_self], hc⟩
  | cells, l', (i, x) :: rest, vc, vp, h, hc, ⟨v, vs, e, k1, k2⟩ => by
    subst e
    simp only [fillE] at h
    split at h
    · cases h
    · rename_i off size hp
      split at h
      · rename_i hs
        simp only [Bool.and_eq_true] at hs
        split at h
        · rename_i c' hc'
          have hce := cellsE_R k1 hs.2
          obtain ⟨vl, h1, h2⟩ := lay_R hc' hc hce
          obtain ⟨vl', h3, h4⟩ := fillE_R h h2 k2
          refine ⟨vl', ?_, h4⟩
          have : Nat.beq (cellsL v).length size = true := by rw [hce.length]; exact hs.1
          simp only [fillL, hp, this, h1, h3]
        · cases h
      · cases h
def builtE (P : Program) (t : TypeId) (parts : List (Nat × EV)) : Option (List EV) :=
  match P.info? t with
  | some it => match it.zero, P.underlying t with
    | some z, some (.struct fs) => match placesL P fs.toList, ofVals (cellsL z) with
      | some places, some zc => fillE (nthG places) zc parts
      | _, _ => none
    | some z, some (.array _ e) => match P.info? e, ofVals (cellsL z) with
      | some ie, some zc => fillE (fun i => some (i * ie.size, ie.size)) zc parts
      | _, _ => none
    | _, _ => none
  | none => none
theorem builtE_R {P : Program} {R : Rel} {t : TypeId} {parts : List (Nat × EV)} {vp : List (Nat × Value)} {l : List EV} (h : builtE P t parts = some l) (hp : PRs R parts vp) : ∃ vl, builtL P t vp = some vl ∧ VRs R l vl := by
  unfold builtE at h
  unfold builtL
  split at h
  · rename_i it hi
    split at h
    · rename_i z fs hz hu
      split at h
      · rename_i places zc h1 h2
        obtain ⟨vl, h3, h4⟩ := fillE_R h (ofVals_VR h2) hp
        refine ⟨vl, ?_, h4⟩
        simp only [hi, hz, hu, h1]
        have : nthG places = (places[·]?) := by funext i; exact nthG_eq places i
        rw [← this]
        exact h3
      · cases h
    · rename_i z m e hz hu
      split at h
      · rename_i ie zc h1 h2
        obtain ⟨vl, h3, h4⟩ := fillE_R h (ofVals_VR h2) hp
        refine ⟨vl, ?_, h4⟩
        simp only [hi, hz, hu, h1]
        exact h3
      · cases h
    · cases h
  · cases h

/-! ### One by one -/
def partInfo (P : Program) (s : TypeId) (f : Nat) : Option (Nat × Option Nat) := match P.underlying s with
  | some (.struct fs) => match fs[f]? with
    | some fd => match aggB P fd.type with
      | some false => some (numeral fd.offset, none)
      | some true => match sizeB P fd.type with
        | some sz => some (numeral fd.offset, some sz)
        | none => none
      | none => none
    | none => none
  | _ => none
def fieldE (P : Program) (s : TypeId) (f : Nat) : EV → Option EV
  | .agg l => match partInfo P s f with
    | some (off, none) => nthG l off
    | some (off, some sz) => some (.agg ((l.drop off).take sz))
    | none => none
  | _ => none
section
variable {P : Program} {R : Rel}
theorem fieldE_run {s : TypeId} {f : Nat} {x v : EV} {vx : Value} (h : fieldE P s f x = some v) (hx : VR R x vx) (w : World) : ∃ v', (Instr.field s vx f).run P w = .ok v' w ∧ VR R v v' := by
  unfold fieldE at h
  split at h
  · rename_i l
    obtain ⟨l', rfl, hl⟩ := hx
    unfold partInfo at h
    cases hu : P.underlying s with
    | none => simp [hu] at h
    | some d =>
      cases d <;> simp only [hu] at h <;> first | (cases h; done) | skip
      rename_i fs
      cases hf : fs[f]? with
      | none => simp [hf] at h
      | some fd =>
        simp only [hf] at h
        cases ha : aggB P fd.type with
        | none => simp [ha] at h
        | some b =>
          cases b with
          | false =>
            simp only [ha, numeral_eq] at h
            rw [nthG_eq] at h
            obtain ⟨u, h1, h2⟩ := hl.get h
            refine ⟨u, ?_, h2⟩
            simp [Instr.field, run_underlying hu, hf, asAgg, part, run_isAgg ha, h1]
          | true =>
            simp only [ha] at h
            cases hs : sizeB P fd.type with
            | none => simp [hs] at h
            | some sz =>
              simp only [hs, numeral_eq] at h
              cases h
              obtain ⟨i, hi, hsz⟩ := sizeB_spec hs
              refine ⟨.agg ((l'.drop fd.offset).take sz).toArray, ?_, _, rfl, (hl.drop _).take _⟩
              simp [Instr.field, run_underlying hu, hf, asAgg, part, run_isAgg ha, sizeOf, typeInfo, hi, hsz]
  · cases h
/-- A part of a struct's or an array's cells. -/
def partE (P : Program) (t : TypeId) (l : List EV) (off : Nat) : Option EV := match aggB P t, sizeB P t with
  | some false, _ => nthG l off
  | some true, some sz => some (.agg ((l.drop off).take sz))
  | _, _ => none
theorem partE_run {t : TypeId} {l : List EV} {l' : List Value} {off : Nat} {v : EV} (h : partE P t l off = some v) (hl : VRs R l l') (w : World) : ∃ v', (part t l'.toArray off).run P w = .ok v' w ∧ VR R v v' := by
  unfold partE at h
  split at h
  · rename_i ha
    rw [nthG_eq] at h
    obtain ⟨u, h1, h2⟩ := hl.get h
    exact ⟨u, by simp [part, run_isAgg ha, h1], h2⟩
  · rename_i sz ha hs
    cases h
    obtain ⟨i, hi, hsz⟩ := sizeB_spec hs
    exact ⟨.agg ((l'.drop off).take sz).toArray, by simp [part, run_isAgg ha, sizeOf, typeInfo, hi, hsz], _, rfl, (hl.drop _).take _⟩
  · cases h
def indexE (P : Program) (t : TypeId) : EV → EV → Option EV
  | .agg l, .int _ (.ofNat i) => match P.underlying t with
    | some (.array len e) => match sizeB P e, Nat.blt i len with
      | some sz, true => partE P e l (i * sz)
      | _, _ => none
    | _ => none
  | .str l, .int _ (.ofNat i) => match P.underlying t with
    | some .string => match nthG l i with
      | some b => some (.int .u8 (.ofNat (b % 256)))
      | none => none
    | _ => none
  | _, _ => none
theorem indexE_run {t : TypeId} {x y v : EV} {vx vy : Value} (h : indexE P t x y = some v) (hx : VR R x vx) (hy : VR R y vy) (w : World) : ∃ v', (Instr.index t vx vy).run P w = .ok v' w ∧ VR R v v' := by
  unfold indexE at h
  split at h
  · rename_i l k i
    obtain ⟨l', rfl, hl⟩ := hx
    have hy : vy = .int k (i : Int) := hy
    subst hy
    split at h
    · rename_i len e hu
      split at h
      · rename_i sz hs hlt
        have hlt : i < len := by simpa using hlt
        obtain ⟨inf, hi, hsz⟩ := sizeB_spec hs
        obtain ⟨v', h1, h2⟩ := partE_run h hl w
        refine ⟨v', ?_, h2⟩
        have h0 : (0 : Int) ≤ (i : Int) ∧ (i : Int) < (len : Int) := by omega
        simp only [Instr.index, asIntOf, Sem.run_bind, Sem.run_pure, Result.andThen_ok, run_underlying hu, h0, and_self, if_true]
        simp [sizeOf, typeInfo, hi, hsz, h1]
      · cases h
    · cases h
  · rename_i l k i
    simp only [VR] at hx hy
    subst hx hy
    split at h
    · rename_i hu
      split at h
      · rename_i b hb
        cases h
        rw [nthG_eq] at hb
        refine ⟨_, ?_, VR.intI⟩
        have h1 : (bs l)[i]? = some (UInt8.ofNat b) := by
          have hlt : i < l.length := (List.getElem?_eq_some_iff.1 hb).1
          have hlt' : i < (bs l).size := by rw [bs_size]; exact hlt
          have : (bs l)[i] = UInt8.ofNat b := by
            have h3 : l[i] = b := (List.getElem?_eq_some_iff.1 hb).2
            show (l.map UInt8.ofNat).toArray[i]'(by simpa using hlt) = _
            simp [h3]
          rw [getElem?_pos (bs l) i hlt', this]
        have h2 : (0 : Int) ≤ Int.ofNat i := Int.natCast_nonneg i
        simp only [Instr.index, asIntOf, Sem.run_bind, Sem.run_pure, Result.andThen_ok, run_underlying hu, h2, if_true]
        simp [h1]
      · cases h
    · cases h
  · cases h
def indexAddrE (P : Program) (t : TypeId) : EV → EV → Option EV
  | .slc k off len _ _, .int _ (.ofNat i) => match Nat.blt i len with
    | true => match elemSize P t with
      | some sz => some (.ptr k (off + i * sz))
      | none => none
    | false => none
  | _, _ => none
theorem indexAddrE_run {t : TypeId} {x y v : EV} {vx vy : Value} (h : indexAddrE P t x y = some v) (hx : VR R x vx) (hy : VR R y vy) (w : World) : ∃ v', (Instr.indexAt t vx vy).run P w = .ok v' w ∧ VR R v v' := by
  unfold indexAddrE at h
  split at h
  · rename_i k off len s c k' i
    obtain ⟨b, cc, cap, hR, rfl, _⟩ := hx
    simp only [VR] at hy
    subst hy
    split at h
    · rename_i hlt
      split at h
      · rename_i sz hs
        cases h
        have hlt : i < len := by simpa using hlt
        exact ⟨_, run_indexAt_in hs (Int.natCast_nonneg i) (by show ((i : Nat) : Int) < (len : Int); omega) w, b, cc, hR, rfl⟩
      · cases h
    · cases h
  · cases h
/-- A bound that is given, or not. -/
def bnd (x : Option EV) (d : Nat) : Option Nat := match x with | none => some d | some (.int _ (.ofNat a)) => some a | _ => none
def capSub (cap : Option Nat) (a : Nat) : Option Nat := match cap with | some c => some (c - a) | none => none
def sliceE (P : Program) (t : TypeId) (x : EV) (lo hi : Option EV) : Option EV := match x with
  | .str l => match P.underlying t with
    | some .string => match bnd lo 0, bnd hi l.length with
      | some a, some b => match Nat.ble a b && Nat.ble b l.length with
        | true => some (.str ((l.drop a).take (b - a)))
        | false => none
      | _, _ => none
    | _ => none
  | .slc k off len sz cap => match elemSize P t with
    | some sz' => match bnd lo 0, bnd hi len with
      | some a, some b => match Nat.beq sz sz' && (Nat.beq a 0 || Nat.blt a b) && Nat.ble a b && Nat.ble b len with
        | true => some (.slc k (off + a * sz) (b - a) sz (capSub cap a))
        | false => none
      | _, _ => none
    | none => none
  | .flat (.slice none 0 0) => match P.underlying t with
    | some (.slice _) => match bnd lo 0, bnd hi 0, elemSize P t with
      | some a, some b, some _ => match Nat.beq a 0 && Nat.beq b 0 with
        | true => some (.flat (.slice none 0 0))
        | false => none
      | _, _, _ => none
    | _ => none
  | _ => none
theorem bnd_spec {x : Option EV} {vx : Option Value} {d a : Nat} (h : bnd x d = some a) (hv : ∀ e, x = some e → ∃ v, vx = some v ∧ VR R e v) (hn : x = none → vx = none) : (vx = none ∧ a = d) ∨ ∃ k, vx = some (.int k (a : Int)) := by
  unfold bnd at h
  split at h
  · cases h; exact .inl ⟨hn rfl, rfl⟩
  · rename_i k b
    cases h
    obtain ⟨v, rfl, hv2⟩ := hv _ rfl
    have hv2 : v = .int k (Int.ofNat a) := hv2
    subst hv2
    exact .inr ⟨k, rfl⟩
  · cases h
theorem sliceBounds_run {isS : Bool} {len cap a b : Nat} {lo hi : Option Value} (hlo : (lo = none ∧ a = 0) ∨ ∃ k, lo = some (.int k (a : Int))) (hhi : (hi = none ∧ b = len) ∨ ∃ k, hi = some (.int k (b : Int))) (h1 : a ≤ b) (h2 : b ≤ cap) (w : World) :
    (Instr.sliceBounds isS len cap lo hi none).run P w = .ok (a, b, cap) w := by
  have ha : (0 : Int) ≤ (a : Int) ∧ (a : Int) ≤ (b : Int) := by omega
  have hb : (0 : Int) ≤ (b : Int) ∧ (b : Int) ≤ (cap : Int) := by omega
  rcases hlo with ⟨rfl, rfl⟩ | ⟨k, rfl⟩ <;> rcases hhi with ⟨rfl, rfl⟩ | ⟨k', rfl⟩ <;> simp [Instr.sliceBounds, Instr.sliceBound, asIntOf, h1, h2]
theorem sliceE_run {t : TypeId} {x v : EV} {lo hi : Option EV} {vx : Value} {vlo vhi : Option Value} (h : sliceE P t x lo hi = some v) (hx : VR R x vx)
    (hlo : ∀ e, lo = some e → ∃ v, vlo = some v ∧ VR R e v) (hlo' : lo = none → vlo = none) (hhi : ∀ e, hi = some e → ∃ v, vhi = some v ∧ VR R e v) (hhi' : hi = none → vhi = none) (w : World) :
    ∃ v', (Instr.sliceAt t vx vlo vhi none).run P w = .ok v' w ∧ VR R v v' := by
  unfold sliceE at h
  split at h
  · rename_i l
    simp only [VR] at hx
    subst hx
    split at h
    · rename_i hu
      split at h
      · rename_i a b h1 h2
        split at h
        · rename_i hb
          simp only [Bool.and_eq_true, Nat.ble_eq] at hb
          cases h
          refine ⟨_, ?_, VR.strI⟩
          have := sliceBounds_run (P := P) (isS := false) (len := (bs l).size) (cap := (bs l).size) (bnd_spec h1 hlo hlo') (by rw [bs_size]; exact bnd_spec h2 hhi hhi') hb.1 (by rw [bs_size]; exact hb.2) w
          have hex : (bs l).extract a b = bs ((l.drop a).take (b - a)) := by
            apply ByteArray.ext
            rw [ByteArray.data_extract]
            simp [bs, List.map_take, List.map_drop]
          simp [Instr.sliceAt, Instr.slice, run_underlying hu, this, hex]
        · cases h
      · cases h
    · cases h
  · rename_i k off len sz cap
    obtain ⟨b0, cc, cap', hR, rfl, hlc, hcap, hfull, hex⟩ := hx
    split at h
    · rename_i sz' hs
      obtain ⟨e, i, he, hi', hsz⟩ := elemSize_spec hs
      split at h
      · rename_i a b h1 h2
        split at h
        · rename_i hb
          simp only [Bool.and_eq_true, Bool.or_eq_true, Nat.ble_eq, Nat.beq_eq, Nat.blt_eq] at hb
          obtain ⟨⟨⟨rfl, h0⟩, hab⟩, hbl⟩ := hb
          cases h
          have hbc : b ≤ cap' := by omega
          have hsb := sliceBounds_run (P := P) (isS := true) (len := len) (cap := cap') (bnd_spec h1 hlo hlo') (bnd_spec h2 hhi hhi') hab hbc w
          refine ⟨.slice (some ⟨b0, off + a * sz, none⟩) (b - a) (cap' - a), ?_, b0, cc, cap' - a, hR, rfl, by omega, ?_, ?_, ?_⟩
          · simp only [Instr.sliceAt, Instr.slice, Sem.run_bind, run_underlying he, Result.andThen_ok, hsb, sizeOf, typeInfo, hi', hsz]
            simp [hi', hsz]
            split
            · rcases h0 with rfl | h0
              · simp
              · omega
            · rw [Addr.add_lit]
          · have : (cap' - a) * sz + a * sz = cap' * sz := by rw [← Nat.add_mul]; congr 1; omega
            omega
          · intro hc
            cases cap with
            | some c => cases hc
            | none =>
              have : (cap' - a) * sz + a * sz = cap' * sz := by rw [← Nat.add_mul]; congr 1; omega
              have := hfull rfl
              omega
          · intro x hx
            cases cap with
            | none => cases hx
            | some c => cases hx; rw [hex c rfl]
        · cases h
      · cases h
    · cases h
  · simp only [VR] at hx
    subst hx
    split at h
    · rename_i e hu
      split at h
      · rename_i a b sz h1 h2 hs
        split at h
        · rename_i hb
          simp only [Bool.and_eq_true, Nat.beq_eq] at hb
          obtain ⟨rfl, rfl⟩ := hb
          cases h
          obtain ⟨e', i, he, hi', hsz⟩ := elemSize_spec hs
          have hsb := sliceBounds_run (P := P) (isS := true) (len := 0) (cap := 0) (bnd_spec h1 hlo hlo') (bnd_spec h2 hhi hhi') (Nat.le_refl 0) (Nat.le_refl 0) w
          refine ⟨_, ?_, VR.flatI⟩
          simp [Instr.sliceAt, Instr.slice, run_underlying he, hsb, sizeOf, typeInfo, hi']
        · cases h
      · cases h
    · cases h
  · cases h
/-- A part of a slice whose capacity is given. -/
def slice3E (P : Program) (t : TypeId) (x : EV) (lo : Option EV) (hi mx : EV) : Option EV := match x, hi, mx with
  | .slc k off len sz cap, .int _ (.ofNat b), .int _ (.ofNat m) => match elemSize P t, bnd lo 0 with
    | some sz', some a => match Nat.beq sz sz' && Nat.ble a b && Nat.ble b m && (Nat.ble m len || (match cap with | some c => Nat.ble m c | none => false)) with
      | true => some (.slc k (match Nat.beq m a with | true => off | false => off + a * sz) (b - a) sz (some (m - a)))
      | false => none
    | _, _ => none
  | _, _, _ => none
theorem slice3E_run {t : TypeId} {x v hi mx : EV} {lo : Option EV} {vx vhi vmx : Value} {vlo : Option Value} (h : slice3E P t x lo hi mx = some v) (hx : VR R x vx)
    (hlo : ∀ e, lo = some e → ∃ v, vlo = some v ∧ VR R e v) (hlo' : lo = none → vlo = none) (hhi : VR R hi vhi) (hmx : VR R mx vmx) (w : World) :
    ∃ v', (Instr.sliceAt t vx vlo (some vhi) (some vmx)).run P w = .ok v' w ∧ VR R v v' := by
  unfold slice3E at h
  split at h
  · rename_i k off len sz cap kb b km m
    obtain ⟨b0, cc, cap', hR, rfl, hlc, hcap, hfull, hex⟩ := hx
    have hhi : vhi = .int kb (b : Int) := hhi
    have hmx : vmx = .int km (m : Int) := hmx
    subst hhi hmx
    split at h
    · rename_i sz' a hs h1
      obtain ⟨e, i, he, hi', hsz⟩ := elemSize_spec hs
      split at h
      · rename_i hb
        simp only [Bool.and_eq_true, Bool.or_eq_true, Nat.ble_eq, Nat.beq_eq] at hb
        obtain ⟨⟨⟨rfl, hab⟩, hbm⟩, hmc⟩ := hb
        cases h
        have hmc' : m ≤ cap' := by
          rcases hmc with h | h
          · omega
          · cases cap with
            | none => simp at h
            | some c => have := hex c rfl; simp at h; omega
        have hsb : (Instr.sliceBounds true len cap' vlo (some (.int kb (b : Int))) (some (.int km (m : Int)))).run P w = .ok (a, b, m) w := by
          have hm1 : (m : Int) ≤ (cap' : Int) := by omega
          have hb1 : (b : Int) ≤ (m : Int) := by omega
          rcases bnd_spec h1 hlo hlo' with ⟨rfl, rfl⟩ | ⟨k', rfl⟩
          · simp [Instr.sliceBounds, Instr.sliceBound, asIntOf, hmc', hbm]
          · simp [Instr.sliceBounds, Instr.sliceBound, asIntOf, hmc', hbm, hab]
        have hoff : (if m = a then (some ⟨b0, off, none⟩ : Option Addr) else (some ⟨b0, off, none⟩ : Option Addr).map (·.add (a * sz))) = some ⟨b0, (match Nat.beq m a with | true => off | false => off + a * sz), none⟩ := by
          by_cases e : m = a
          · subst e; simp
          · have : Nat.beq m a = false := by rw [Bool.eq_false_iff]; exact fun h => e (Nat.eq_of_beq_eq_true h)
            rw [if_neg e, this]
            simp [Addr.add_lit]
        refine ⟨.slice (some ⟨b0, (match Nat.beq m a with | true => off | false => off + a * sz), none⟩) (b - a) (m - a), ?_, b0, cc, m - a, hR, rfl, by omega, ?_, (fun h => by cases h), fun x hx => by cases hx; rfl⟩
        · rw [← hoff]
          simp only [Instr.sliceAt, Instr.slice, Sem.run_bind, run_underlying he, Result.andThen_ok, hsb, sizeOf, typeInfo, hi', hsz]
          simp [hi', hsz]
        · have h3 : (m - a) * sz + a * sz = m * sz := by rw [← Nat.add_mul]; congr 1; omega
          have h4 : m * sz ≤ cap' * sz := Nat.mul_le_mul_right _ hmc'
          split <;> omega
      · cases h
    · cases h
  · cases h
end
end Go.Proofs.YtafochlcnjeanaaGreat.E
