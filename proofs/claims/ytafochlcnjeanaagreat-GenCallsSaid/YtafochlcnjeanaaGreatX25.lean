/- Runs by numbers: what is appended; one step. For whatever program. -/
import Derived.Test.YtafochlcnjeanaaGreatX24
namespace Go.Proofs.YtafochlcnjeanaaGreat.E
open Go Go.RowKit X

/-! ### Appending -/
/-- The elements that are appended: how many, their cells. -/
def newsE (H : T Blk) (sz : Nat) : EV → Option (Nat × List EV)
  | .flat (.slice none 0 0) => some (0, [])
  | .slc k off m _ _ => match H.get k with
    | some (.row _ _ cs) => match getN cs off (m * sz) with
      | some l => match onesE l with
        | true => some (m, l)
        | false => none
      | none => none
    | _ => none
  | _ => none
def appendE (P : Program) (H : T Blk) (id : Nat) (t : TypeId) (s x : EV) : Option (EV × T Blk) := match elemB P t with
  | some (e, sz, bytes) => match Nat.ble bytes 65536, newsE H sz x with
    | true, some (0, []) => match s with
      | .flat (.slice none 0 0) => some (s, H)
      | .slc _ _ _ _ _ => some (s, H)
      | _ => none
    | true, some (m, nl) => match s with
      | .flat (.slice none 0 0) => match Nat.beq m 0, Nat.ble m 65536 with
        | false, true => some (.slc id 0 m sz none, H.put id (newRowE e nl))
        | _, _ => none
      | .slc k off len sz' cap => match H.get k with
        | some (.row ty n cs) => match Nat.beq sz' sz && Nat.beq ty e && Nat.ble (len + m) 65536 with
          | true => match cap with
            | some c => match Nat.ble (len + m) c with
              | true => match Nat.beq off 0 && Nat.ble (len * sz + m * sz) n with
                | true => some (.slc k 0 (len + m) sz (some c), H.put k (.row ty n (cs.puts (len * sz) nl)))
                | false => none
              | false => match getN cs off (len * sz) with
                | some ol => some (.slc id 0 (len + m) sz none, H.put id (newRowE e (ol ++ nl)))
                | none => none
            | none => match Nat.beq off 0 with
              | true => match Nat.ble (len * sz + m * sz) n with
                | true => some (.slc k 0 (len + m) sz none, H.put k (.row ty n (cs.puts (len * sz) nl)))
                | false => match Nat.beq (len * sz) n with
                  | true => match getN cs 0 n with
                    | some _ => some (.slc id 0 (len + m) sz none, (H.put k .dead).put id (.row ty (n + m * sz) (cs.puts n nl)))
                    | none => none
                  | false => none
              | false => none
          | false => none
        | _ => none
      | _ => none
    | _, _ => none
  | none => none
section
variable {P : Program} {R : Rel}
theorem newsE_R {H : T Blk} {sz m : Nat} {x : EV} {nl : List EV} {vx : Value} {w : World} (h : newsE H sz x = some (m, nl)) (hx : VR R x vx) (HH : HR R H.get w.heap) :
    (vx = .slice none 0 0 ∧ m = 0 ∧ nl = []) ∨ ∃ b off cap us, vx = .slice (some ⟨b, off, none⟩) m cap ∧ VRs R nl us ∧ us.length = m * sz ∧ (∀ u ∈ us, u.oneCell' = true) ∧ ∀ (j : Nat) u, us[j]? = some u → w.cell? ((⟨b, off, none⟩ : Addr).add j) = some u := by
  unfold newsE at h
  split at h
  · cases h
    exact .inl ⟨hx, rfl, rfl⟩
  · rename_i k off m' s c
    obtain ⟨b, cc, cap, hR, rfl, _⟩ := hx
    split at h
    · rename_i ty n cs hk
      split at h
      · rename_i l hl
        split at h
        · rename_i ho
          cases h
          obtain ⟨cur, hb, hc, hn, hcs⟩ := HH.row hk hR
          obtain ⟨us, h1, h2⟩ := getN_R (fun i x hx => (hcs i x hx).2) hl
          exact .inr ⟨b, off, cap, us, rfl, h1, by rw [h1.length, getN_length hl], onesE_spec h1 ho, fun j u hj => by rw [Addr.add_lit]; exact cell_of hb (h2 j u hj)⟩
        · cases h
      · cases h
    · cases h
  · cases h
theorem zeroCells_size (z : Array Value) (n : Nat) : (Builtin.zeroCells z n).size = n * z.size := by simp [Builtin.zeroCells]
theorem puts_ol {l k : List EV} {n : Nat} (h : n = l.length) : ∀ i, ((T.leaf.puts 0 (l ++ k)).get i : Option EV) = if i < n then l[i]? else if i < n + k.length then k[i - n]? else none := fun i => by
  subst h
  rw [T.get_puts]
  simp only [Nat.zero_le, true_and, Nat.zero_add, List.length_append, Nat.sub_zero, T.get]
  by_cases h1 : i < l.length
  · rw [if_pos (by omega), if_pos h1, List.getElem?_append_left h1]
  · rw [if_neg h1, List.getElem?_append_right (by omega)]
/-- A block that grew: its cells are what was known, and what is new. -/
theorem grow_BR {ty n : Nat} {cs : T EV} {ol nl : List EV} {ous us rest : List Value} (hcs : ∀ i x, cs.get i = some x → i < n) (hol : getN cs 0 n = some ol) (ho : VRs R ol ous) (hn : VRs R nl us) :
    BR R (.row ty (n + nl.length) (cs.puts n nl)) (ous.length + us.length + rest.length) (some (.cells (ous ++ us ++ rest).toArray ty (0, 0))) := by
  have h1 := ho.length
  have h2 := hn.length
  have h3 := getN_length hol
  have hget : ∀ {m i : Nat} {l : List EV}, getN cs i m = some l → ∀ j, j < m → cs.get (i + j) = l[j]? := by
    intro m
    induction m with
    | zero => intro i l _ j hj; omega
    | succ m ih =>
      intro i l h j hj
      simp only [getN] at h
      split at h
      · rename_i x l' h4 h5
        cases h
        cases j with
        | zero => simpa using h4
        | succ j => rw [show i + (j + 1) = i + 1 + j by omega, ih h5 j (by omega)]; simp
      · cases h
  refine ⟨_, rfl, by simp; omega, by omega, fun i x hx => ?_⟩
  rw [T.get_puts] at hx
  split at hx
  · rename_i hi
    obtain ⟨u, h4, h5⟩ := hn.get hx
    refine ⟨by omega, u, ?_, h5⟩
    simp only [List.getElem?_toArray, List.append_assoc]
    rw [List.getElem?_append_right (by omega), List.getElem?_append_left (by omega), h1, h3]
    exact h4
  · rename_i hi
    have h4 := hcs i x hx
    have h5 := hget hol i h4
    rw [Nat.zero_add, hx] at h5
    obtain ⟨u, h6, h7⟩ := ho.get h5.symm
    refine ⟨by omega, u, ?_, h7⟩
    simp only [List.getElem?_toArray, List.append_assoc]
    rw [List.getElem?_append_left (by omega)]
    exact h6
theorem append_same {t ty0 e m : Nat} {i : TypeInfo} {vs vx : Value} {us : List Value} {w : World} (hu : P.underlying t = some (.slice e)) (hi : P.info? e = some i) (hm : m = 0) (hl : us.length = m * i.size)
    (hvs : vs = .slice none 0 0 ∨ ∃ a n c, vs = .slice (some a) n c ∧ n ≤ c) (hvx : vx = .slice none 0 0 ∨ ∃ a c, vx = .slice (some a) m c ∧ ∀ (j : Nat) u, us[j]? = some u → w.cell? (a.add j) = some u) :
    (Builtin.append_ #[t, t] ty0 #[vs, vx]).run P w = .ok vs w := by
  subst hm
  have hus : us = [] := List.eq_nil_of_length_eq_zero (by simpa using hl)
  subst hus
  rcases hvs with rfl | ⟨a, n, c, rfl, hnc⟩ <;> rcases hvx with rfl | ⟨a', c', rfl, hc⟩
  · simp [Builtin.append_, run_underlying hu, sizeOf, typeInfo, hi, Builtin.lenOf, Builtin.firstCells]
  · have hf := run_firstCells_some (P := P) w i.size 0 a' 0 c' [] (by simp) (by simp)
    simp [Builtin.append_, run_underlying hu, sizeOf, typeInfo, hi, Builtin.lenOf, hf]
  · simp [Builtin.append_, run_underlying hu, sizeOf, typeInfo, hi, Builtin.lenOf, Builtin.firstCells, hnc, storeCells]
  · have hf := run_firstCells_some (P := P) w i.size 0 a' 0 c' [] (by simp) (by simp)
    simp [Builtin.append_, run_underlying hu, sizeOf, typeInfo, hi, Builtin.lenOf, hf, hnc, storeCells]
theorem appendE_run {H H' : T Blk} {id t ty0 : Nat} {s x v : EV} {vs vx : Value} {w : World} (h : appendE P H id t s x = some (v, H')) (hs : VR R s vs) (hx : VR R x vx) (HH : HR R H.get w.heap) (hid : ∀ b c, ¬ R id b c) :
    ∃ R' v' w', (Builtin.append_ #[t, t] ty0 #[vs, vx]).run P w = .ok v' w' ∧ VR R' v v' ∧ After id (id + 1) R H.get w R' H'.get w' := by
  unfold appendE at h
  split at h
  · rename_i e sz bytes he
    obtain ⟨i, z, hu, hi, hz, hsz, hby, hzs, hpos⟩ := elemB_spec he
    split at h
    · rename_i hbb hnews
      have hN := newsE_R hnews hx HH
      have hvx : ∃ us : List Value, us.length = 0 * i.size ∧ (vx = .slice none 0 0 ∨ ∃ a c, vx = .slice (some a) 0 c ∧ ∀ (j : Nat) u, us[j]? = some u → w.cell? (a.add j) = some u) := by
        rcases hN with ⟨rfl, _, _⟩ | ⟨b, off, cap, us, rfl, h1, h2, h3, h4⟩
        · exact ⟨[], by simp, .inl rfl⟩
        · exact ⟨us, by rw [hsz]; exact h2, .inr ⟨_, _, rfl, h4⟩⟩
      obtain ⟨us, hus, hvx⟩ := hvx
      split at h
      · cases h
        simp only [VR] at hs
        subst hs
        exact ⟨R, _, w, append_same hu hi rfl hus (.inl rfl) hvx, VR.flatI, HH, Go_.refl _ _ _ _ _, .refl _⟩
      · cases h
        have hs' := hs
        obtain ⟨b0, c0, cap', hR, rfl, hlc, hcap, hfull, hexact⟩ := hs
        exact ⟨R, _, w, append_same hu hi rfl hus (.inr ⟨_, _, _, rfl, hlc⟩) hvx, hs', HH, Go_.refl _ _ _ _ _, .refl _⟩
      · cases h
    · rename_i m nl hne hbb hnews
      have hbb := Nat.le_of_ble_eq_true hbb
      have hN := newsE_R hnews hx HH
      rcases hN with ⟨rfl, rfl, rfl⟩ | ⟨b, offx, capx, us, rfl, h1, h2, h3, h4⟩
      · exact absurd rfl (hne rfl)
      have h1l := h1.length
      split at h
      · -- nil
        simp only [VR] at hs
        subst hs
        split at h
        · rename_i hm hm2
          have hm2 := Nat.le_of_ble_eq_true hm2
          have hm0 : 0 < m := by
            rcases Nat.eq_zero_or_pos m with h0 | h0
            · subst h0; simp at hm
            · exact h0
          cases h
          have hr := run_append_nil (P := P) w t ty0 e i z hu hi hz ⟨b, offx, none⟩ m capx us (by rw [hsz]; exact h2) h4 hm0 (by omega) (by rw [hby]; exact Nat.le_trans (Nat.mul_le_mul hm2 hbb) (by decide))
          have hge := grownCap_ge w m 0 e
          refine ⟨_, _, _, hr, ?_, alloc_after (rest := (Builtin.zeroCells z.cells (grownCap w m 0 e - m)).toList) HH hid h1 ?_ ⟨rfl, rfl, rfl⟩⟩
          · have e1 : m * sz + (grownCap w m 0 e - m) * sz = grownCap w m 0 e * sz := by
              rw [← Nat.add_mul]
              congr 1
              omega
            refine ⟨w.heap.size, _, grownCap w m 0 e, .inr ⟨rfl, rfl, rfl⟩, rfl, hge, ?_, fun _ => ?_, fun x hx => by cases hx⟩ <;>
            · simp only [Array.length_toList, zeroCells_size, hzs, h2]
              omega
          · show w.heap.push _ = _
            congr 2
            apply Array.ext'
            simp
        · cases h
      · rename_i k off len sz' cap
        obtain ⟨b0, c0, cap', hR, rfl, hlc, hcap, hfull, hexact⟩ := hs
        split at h
        · rename_i ty n cs hk
          obtain ⟨cur, hb, hc, hn, hcs⟩ := HH.row hk hR
          split at h
          · rename_i hchk
            simp only [Bool.and_eq_true, Nat.beq_eq, Nat.ble_eq] at hchk
            obtain ⟨⟨rfl, rfl⟩, hlm⟩ := hchk
            have hinplace : off = 0 → len + m ≤ cap' → len * sz' + m * sz' ≤ n → ∃ v' w', (Builtin.append_ #[t, t] ty0 #[.slice (some ⟨b0, off, none⟩) len cap', .slice (some ⟨b, offx, none⟩) m capx]).run P w = .ok v' w' ∧
                v' = .slice (some ⟨b0, 0, none⟩) (len + m) cap' ∧ After id (id + 1) R H.get w R (H.put k (.row ty n (cs.puts (len * sz') nl))).get w' := by
              rintro rfl hroom hle
              have hr := run_append_room (P := P) w t ty0 ty i hu hi b0 len cap' cur hb ⟨b, offx, none⟩ m capx us (by rw [hsz]; exact h2) h4 h3 hroom (by rw [hsz, h2]; omega)
              rw [hsz] at hr
              exact ⟨_, _, hr, rfl, write_after HH hk hR hb h1 (by omega) (Nat.le_refl _) hn⟩
            have hgrow : ∀ ol ous : List _, VRs R ol ous → ous.length = len * sz' → (∀ (j : Nat) u, ous[j]? = some u → w.cell? ((⟨b0, off, none⟩ : Addr).add j) = some u) → cap' < len + m →
                ∃ rest : List Value, (Builtin.append_ #[t, t] ty0 #[.slice (some ⟨b0, off, none⟩) len cap', .slice (some ⟨b, offx, none⟩) m capx]).run P w = .ok (.slice (some ⟨w.heap.size, 0, none⟩) (len + m) (grownCap w (len + m) cap' ty)) (w.drew.alloc (.cells (ous ++ us ++ rest).toArray ty)) ∧
                  ous.length + us.length + rest.length = grownCap w (len + m) cap' ty * sz' := by
              intro ol ous ho hol hocell hg
              have hr := run_append_grow (P := P) w t ty0 ty i z hu hi hz ⟨b0, off, none⟩ len cap' ous (by rw [hsz]; exact hol) hocell ⟨b, offx, none⟩ m capx us (by rw [hsz]; exact h2) h4 hg (by omega)
                (by rw [hby]; exact growslice_fits hg (Nat.le_trans (Nat.mul_le_mul hlm hbb) (by decide)))
              have hge := grownCap_ge w (len + m) cap' ty
              refine ⟨(Builtin.zeroCells z.cells (grownCap w (len + m) cap' ty - (len + m))).toList, ?_, ?_⟩
              · rw [hr]
                congr 3
                apply Array.ext'
                simp
              · simp only [Array.length_toList, zeroCells_size, hzs, h2, hol]
                rw [← Nat.add_mul, ← Nat.add_mul]
                congr 1
                omega
            have hcell : ∀ {ol : List EV} {o q : Nat}, getN cs o q = some ol → ∃ ous, VRs R ol ous ∧ ous.length = q ∧ ∀ (j : Nat) u, ous[j]? = some u → w.cell? ((⟨b0, o, none⟩ : Addr).add j) = some u := by
              intro ol o q hol
              obtain ⟨ous, k1, k2⟩ := getN_R (fun i x hx => (hcs i x hx).2) hol
              exact ⟨ous, k1, by rw [k1.length, getN_length hol], fun j u hj => by rw [Addr.add_lit]; exact cell_of hb (k2 j u hj)⟩
            split at h
            · -- the capacity is known
              rename_i c
              have hcc := hexact c rfl
              subst hcc
              split at h
              · rename_i hroom
                have hroom := Nat.le_of_ble_eq_true hroom
                split at h
                · rename_i h0
                  simp only [Bool.and_eq_true, Nat.beq_eq, Nat.ble_eq] at h0
                  obtain ⟨rfl, hle⟩ := h0
                  cases h
                  obtain ⟨v', w', hr, rfl, ha⟩ := hinplace rfl hroom hle
                  exact ⟨R, _, w', hr, ⟨b0, c0, cap', hR, rfl, hroom, hcap, (fun h => by cases h), fun x hx => by cases hx; rfl⟩, ha⟩
                · cases h
              · rename_i hroom
                have hroom : cap' < len + m := by
                  rcases Nat.lt_or_ge cap' (len + m) with h5 | h5
                  · exact h5
                  · rw [Nat.ble_eq_true_of_le h5] at hroom; cases hroom
                split at h
                · rename_i ol hol
                  cases h
                  obtain ⟨ous, k1, k2, k3⟩ := hcell hol
                  obtain ⟨rest, hr, hsize⟩ := hgrow ol ous k1 k2 k3 hroom
                  have hge := grownCap_ge w (len + m) cap' ty
                  refine ⟨_, _, _, hr, ?_, alloc_after (l := ol ++ nl) (us := ous ++ us) (rest := rest) HH hid (k1.append h1) rfl ⟨rfl, rfl, rfl⟩⟩
                  refine ⟨w.heap.size, _, grownCap w (len + m) cap' ty, .inr ⟨rfl, rfl, rfl⟩, rfl, hge, ?_, fun _ => ?_, fun x hx => by cases hx⟩ <;>
                  · simp only [List.length_append]
                    omega
                · cases h
            · -- the capacity is not known
              have hfull := hfull rfl
              split at h
              · rename_i h0
                have h0 := Nat.eq_of_beq_eq_true h0
                subst h0
                split at h
                · rename_i hle
                  have hle := Nat.le_of_ble_eq_true hle
                  cases h
                  have hroom : len + m ≤ cap' := by
                    have : (len + m) * sz' ≤ cap' * sz' := by rw [Nat.add_mul]; omega
                    exact Nat.le_of_mul_le_mul_right this hpos
                  obtain ⟨v', w', hr, rfl, ha⟩ := hinplace rfl hroom hle
                  exact ⟨R, _, w', hr, ⟨b0, c0, cap', hR, rfl, hroom, hcap, fun _ => hfull, fun x hx => by cases hx⟩, ha⟩
                · split at h
                  · rename_i hln
                    have hln := Nat.eq_of_beq_eq_true hln
                    split at h
                    · rename_i ol hol
                      cases h
                      have hkid : k ≠ id := fun e => hid _ _ (e ▸ hR)
                      rcases Nat.lt_or_ge cap' (len + m) with hroom | hroom
                      · obtain ⟨ous, k1, k2, k3⟩ := hcell hol
                        obtain ⟨rest, hr, hsize⟩ := hgrow ol ous k1 (by rw [k2, hln]) k3 hroom
                        have hge := grownCap_ge w (len + m) cap' ty
                        obtain ⟨H1, G1⟩ := HH.kill (lo := id) (hi := id) hk
                        have hsub : Rel.le R (R.add id w.heap.size (ous.length + us.length + rest.length)) := fun _ _ _ h => .inl h
                        have hbr := grow_BR (R := R) (ty := ty) (rest := rest) (fun i x hx => (hcs i x hx).1) hol k1 h1
                        rw [h1l] at h2
                        rw [show n + nl.length = n + m * sz' by rw [h2]] at hbr
                        have hN := H1.new (id := id) (c := ous.length + us.length + rest.length) (B' := .row ty (n + m * sz') (cs.puts n nl)) (hp' := (w.drew.alloc (.cells (ous ++ us ++ rest).toArray ty)).heap) hid trivial
                          (by show w.heap.size < (w.heap.push _).size; simp) (fun b' hb' => by show (w.heap.push _)[b']? = _; rw [Array.getElem?_push_lt hb']; simp [hb'])
                          (by show BR _ _ _ (w.heap.push _)[w.heap.size]?; simp only [Array.getElem?_push_size]; exact hbr.mono hsub)
                        refine ⟨R.add id w.heap.size (ous.length + us.length + rest.length), _, _, hr, ?_, ?_⟩
                        · refine ⟨w.heap.size, _, grownCap w (len + m) cap' ty, .inr ⟨rfl, rfl, rfl⟩, rfl, hge, by omega, fun _ => by omega, fun x hx => by cases hx⟩
                        · rw [get_put_upd, get_put_upd]
                          exact ⟨hN.1, G1.trans hN.2 (Nat.le_refl _) (Nat.le_succ _), ⟨rfl, rfl, rfl⟩⟩
                      · have hcm : (len + m) * sz' ≤ cap' * sz' := Nat.mul_le_mul_right _ hroom
                        rw [Nat.add_mul] at hcm
                        have hr := run_append_room (P := P) w t ty0 ty i hu hi b0 len cap' cur hb ⟨b, offx, none⟩ m capx us (by rw [hsz]; exact h2) h4 h3 hroom (by rw [hsz, h2]; omega)
                        rw [hsz, hln] at hr
                        have hsub : Rel.le R (R.add id b0 c0) := fun _ _ _ h => .inl h
                        have hbr := BR.write (R := R) (B := 0) (ty := ty) (o := n) (n' := n + m * sz') hc hn hcs h1 (by omega) (by omega) (by omega)
                        have h5 := setRow_heap w b0 cur (cur.toList.take n ++ us ++ cur.toList.drop (n + us.length)).toArray ty (0, 0) hb
                        have hM := HH.move (id := id) (B' := .row ty (n + m * sz') (cs.puts n nl)) (hp' := (w.setRow b0 (cur.toList.take n ++ us ++ cur.toList.drop (n + us.length)).toArray).heap) hid hk trivial trivial hR
                          (setRow_size _ _ _) (fun b' hb' => setRow_ne w _ hb') (by rw [h5]; exact hbr.mono hsub)
                        refine ⟨R.add id b0 c0, _, _, hr, ?_, ?_⟩
                        · exact ⟨b0, c0, cap', .inr ⟨rfl, rfl, rfl⟩, rfl, hroom, hcap, fun _ => hfull, fun x hx => by cases hx⟩
                        · rw [get_put_upd, get_put_upd]
                          exact ⟨hM.1, hM.2, setRow_same _ _ _⟩
                    · cases h
                  · cases h
              · cases h
          · cases h
        · cases h
      · cases h
    · cases h
  · cases h
end
end Go.Proofs.YtafochlcnjeanaaGreat.E
