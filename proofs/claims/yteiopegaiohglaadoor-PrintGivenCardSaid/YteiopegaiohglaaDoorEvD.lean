/- The layer, fourth part: maps whose keys are structs or arrays; texts appended to bytes. -/
import Derived.Test.YteiopegaiohglaaDoorEvC
namespace Go.Ev
open Go Rep
/-! ### Maps from keys of plain cells to integers -/
/-- Block b is a map of n keys: m tells what lies at each. -/
def MapG {κ : Type} (ks : List Kc) (enc : κ → Value) (h : H) (b : Nat) (m : κ → Option Int) (n : Nat) : Prop := ∃ a c, h[b]? = some (.map a c) ∧ a.size = n ∧ (a.toList.map (·.key)).Nodup ∧ (∀ x ∈ a.toList, ∃ s v, x.key = enc s ∧ keyG ks (enc s) = true ∧ x.val = .int .i64 v ∧ m s = some v) ∧ ∀ s v, m s = some v → ∃ x ∈ a.toList, x.key = enc s
section
variable {κ : Type} {ks : List Kc} {enc : κ → Value}
theorem MapG.lt {h : H} {b : Nat} {m : κ → Option Int} {n : Nat} (k : MapG ks enc h b m n) : b < h.size := by
  obtain ⟨a, c, hb, _⟩ := k
  exact (Array.getElem?_eq_some_iff.1 hb).1
theorem MapG.step {S : Nat → Prop} {u u' : U} {h h' : H} {b : Nat} {m : κ → Option Int} {n : Nat} (k : MapG ks enc h b m n) (s : Step S u h u' h') (hn : ¬ S b) : MapG ks enc h' b m n := by
  have hl := k.lt
  obtain ⟨a, c, hb, k'⟩ := k
  exact ⟨a, c, by rw [(s.same b hl hn).1]; exact hb, k'⟩
def putg (m : κ → Option Int) [DecidableEq κ] (s : κ) (v : Int) : κ → Option Int := fun t => if t = s then some v else m t
variable {G : Ctr} {d : Option Nat} {st : Stab} {r : List St} {K : Env → H → Prop} {KP : List PanicEntry → H → Prop} {σ : Env} {h : H}
theorem effS_mkmg (ks : List Kc) (enc : κ → Value) (u : U) (hK : ∀ u' h', Step S0 u h u' h' → MapG ks enc h' h.size (fun _ => none) 0 → stabP st σ h h' ∧ wpSts G r K KP (updo σ d (.map (some h.size))) h') : effS G .mkm d st r K KP [] σ h :=
  hK _ _ (Step.pushO S0 u h (.map #[] 0)) ⟨#[], 0, by simp, rfl, by simp, fun x hx => by simp at hx, fun s v hv => by cases hv⟩
theorem effS_lookg {b n : Nat} {m : κ → Option Int} {s : κ} {ok : Bool} (inj : ∀ a b, enc a = enc b → a = b) (hs : keyG ks (enc s) = true) (k : MapG ks enc h b m n) (hK : stabP st σ h h ∧ wpSts G r K KP (updo σ d (lookV (.int .i64 ((m s).getD 0)) ok (m s).isSome)) h) :
    effS G (.lookG ks (.int .i64 0) ok) d st r K KP [.map (some b), enc s] σ h := by
  obtain ⟨a, c, hb, hn, knd, k1, k2⟩ := k
  refine ⟨a.toList, ⟨a, c, hb, rfl⟩, hs, fun x hx => ?_, fun e he hk => ?_, fun hno => ?_⟩
  · obtain ⟨t, v, e1, e2, -⟩ := k1 x hx
    rw [e1]; exact e2
  · obtain ⟨t, v, e1, -, e2, e3⟩ := k1 e he
    have : t = s := inj _ _ (e1.symm.trans hk)
    subst this
    rw [e3] at hK
    rw [e2]; exact hK
  · cases hm : m s with
    | none => rw [hm] at hK; exact hK
    | some v =>
      obtain ⟨x, hx, hk⟩ := k2 s v hm
      exact absurd hk (hno x hx)
theorem effS_lenmg {b n : Nat} {m : κ → Option Int} (k : MapG ks enc h b m n) (hK : stabP st σ h h ∧ wpSts G r K KP (updo σ d (.int .i64 n)) h) : effS G .lenm d st r K KP [.map (some b)] σ h := by
  obtain ⟨a, c, hb, hn, knd, k1, k2⟩ := k
  refine ⟨a.toList, ⟨a, c, hb, rfl⟩, ?_⟩
  rw [Array.length_toList, hn]; exact hK
theorem effS_mputg [DecidableEq κ] {b n : Nat} {m : κ → Option Int} {s : κ} {v : Int} (u : U) (inj : ∀ a b, enc a = enc b → a = b) (hs : keyG ks (enc s) = true) (k : MapG ks enc h b m n)
    (hK : ∀ h', Step (fun i => i = b) u h u h' → MapG ks enc h' b (putg m s v) (if (m s).isSome then n else n + 1) → stabP st σ h h' ∧ wpSts G r K KP (updo σ d undef) h') :
    effS G (.mputG ks) d st r K KP [.map (some b), enc s, .int .i64 v] σ h := by
  have hl := k.lt
  obtain ⟨a, c, hb, hn, knd, k1, k2⟩ := k
  refine ⟨b, a, c, rfl, hb, hs, fun x hx => ?_, fun i e he hk => ?_, fun hno => ?_⟩
  · obtain ⟨t, v, e1, e2, -⟩ := k1 x hx
    rw [e1]; exact e2
  · refine hK _ (Step.setm u hb rfl) ?_
    obtain ⟨t, w, e1, -, e2, e3⟩ := k1 e (by rw [← Array.getElem?_toList] at he; exact List.mem_of_getElem? he)
    have : t = s := inj _ _ (e1.symm.trans hk)
    subst this
    rw [e3]
    have hkeys : (a.modify i fun x => { x with key := enc t, val := .int .i64 v }).toList.map (·.key) = a.toList.map (·.key) := MapKept.modify_keys i _ (fun e' he' => by rw [he] at he'; cases he'; exact e1.symm)
    refine ⟨_, c, by rw [setm_get hl, if_pos rfl], by simpa using hn, by rw [hkeys]; exact knd, fun x hx => ?_, fun t' v' hv' => ?_⟩
    · rw [Array.toList_modify] at hx
      obtain ⟨j, hj, rfl⟩ := List.mem_iff_getElem.1 hx
      rw [List.getElem_modify]
      have hj' : j < a.toList.length := by simpa using hj
      by_cases hij : i = j
      · rw [if_pos hij]
        exact ⟨t, v, rfl, hs, rfl, by simp [putg]⟩
      · rw [if_neg hij]
        obtain ⟨t', w', q1, q0, q2, q3⟩ := k1 a.toList[j] (List.getElem_mem hj')
        by_cases ht : t' = t
        · subst ht
          exfalso
          have hi' : i < a.toList.length := by rw [Array.length_toList]; exact (Array.getElem?_eq_some_iff.1 he).1
          have hei : a.toList[i] = e := by
            have := (Array.getElem?_eq_some_iff.1 he).2
            simpa using this
          exact hij ((List.getElem_inj (h₀ := by simpa using hi') (h₁ := by simpa using hj') knd).1 (by simp only [List.getElem_map]; rw [hei, e1, q1]))
        · exact ⟨t', w', q1, q0, q2, by simp [putg, ht, q3]⟩
    · unfold putg at hv'
      have hmem : ∃ x ∈ a.toList, x.key = enc t' := by
        by_cases ht : t' = t
        · subst ht; exact k2 t' w e3
        · rw [if_neg ht] at hv'; exact k2 t' v' hv'
      obtain ⟨x, hx, hxk⟩ := hmem
      have : enc t' ∈ (a.modify i fun x => { x with key := enc t, val := .int .i64 v }).toList.map (·.key) := by rw [hkeys]; exact List.mem_map.2 ⟨x, hx, hxk⟩
      obtain ⟨y, hy, hyk⟩ := List.mem_map.1 this
      exact ⟨y, hy, hyk⟩
  · have hm : m s = none := by
      cases hm : m s with
      | none => rfl
      | some w => obtain ⟨x, hx, hk⟩ := k2 s w hm; exact absurd hk (hno x hx)
    refine hK _ (Step.setm u hb rfl) ?_
    rw [hm]
    refine ⟨_, c + 1, by rw [setm_get hl, if_pos rfl], by simp [hn], ?_, fun x hx => ?_, fun t' v' hv' => ?_⟩
    · rw [Array.toList_push, List.map_append]
      refine List.nodup_append.2 ⟨knd, by simp, fun x hx y hy => ?_⟩
      simp only [List.map_cons, List.map_nil, List.mem_singleton] at hy
      subst hy
      obtain ⟨e, he, rfl⟩ := List.mem_map.1 hx
      exact hno e he
    · rw [Array.toList_push, List.mem_append, List.mem_singleton] at hx
      rcases hx with hx | rfl
      · obtain ⟨t', w', q1, q0, q2, q3⟩ := k1 x hx
        have ht : t' ≠ s := fun q => hno x hx (by rw [q1, q])
        exact ⟨t', w', q1, q0, q2, by simp [putg, ht, q3]⟩
      · exact ⟨s, v, rfl, hs, rfl, by simp [putg]⟩
    · unfold putg at hv'
      rw [Array.toList_push]
      by_cases ht : t' = s
      · subst ht; exact ⟨_, List.mem_append.2 (.inr (List.mem_singleton.2 rfl)), rfl⟩
      · rw [if_neg ht] at hv'
        obtain ⟨x, hx, hk⟩ := k2 t' v' hv'
        exact ⟨x, by simp only [List.mem_append]; exact .inl hx, hk⟩
end
/-! ### Rows of bytes -/
/-- A byte as it lies in a row. -/
@[instance_reducible] def repB8 : Rep UInt8 where
  sz := 1
  rep _ _ s cs := cs = [.int .u8 s.toNat]
  wf _ := True
  bulk _ := 1
  szp := Nat.one_pos
  len h := by subst h; rfl
  ok h := by subst h; rfl
  mono _ h := h
  pos _ := Nat.le_refl _
abbrev OwnY (k : Nat) (u : U) (h : H) (v : Value) (l : List UInt8) : Prop := @Own UInt8 repB8 k u h v l
abbrev IsSlY (u : U) (h : H) (v : Value) (l : List UInt8) : Prop := @IsSl UInt8 repB8 u h v l
theorem szY : @Rep.sz UInt8 repB8 = 1 := rfl
theorem ok_bytes (l : List UInt8) : (l.map byteV).all okCell = true := by
  rw [List.all_eq_true]
  intro x hx
  obtain ⟨b, -, rfl⟩ := List.mem_map.1 hx
  rfl
theorem own_apps {G : Ctr} {e : TypeId} {k : Nat} {u : U} {h : H} {v : Value} {l m : List UInt8} {K : Value → H → Prop} {KP : List PanicEntry → H → Prop}
    (ho : OwnY k u h v l) (hk : k ≤ h.size) (hb : l.length + m.length ≤ 140737488355328)
    (hK : ∀ v' u' h', OwnY k u' h' v' (l ++ m) → Step (OwnB v) u h u' h' → (∀ b, OwnB v' b → OwnB v b ∨ h.size ≤ b) → K v' h') : fpre G (.apps e) [v, str m] h K KP := by
  have hlen : (l ++ m).length = l.length + m.length := by simp
  have hnl : (m.map byteV).length = m.length := by simp
  -- the rows of the new block
  have grow : ∀ (va : Option Addr) (vc : Nat) (olds : List Value) (cap : Nat), v = .slice va l.length vc → olds.length = l.length → (∀ (i : Nat) (x : UInt8), l[i]? = some x → olds[i]? = some (Value.int .u8 x.toNat)) → l.length + m.length ≤ cap → cap ≤ maxLen →
      K (.slice (some ⟨h.size, 0, none⟩) (l.length + m.length) cap) (h.push (.cells (olds ++ m.map byteV ++ List.replicate (cap - (l.length + m.length)) (Value.int .u8 0)).toArray e)) := by
    intro va vc olds cap hv hol hor h1 h2
    have st := Step.push (OwnB v) u h (olds ++ m.map byteV ++ List.replicate (cap - (l.length + m.length)) (Value.int .u8 0)).toArray e (l.length + m.length)
    refine hK _ (ub u h.size (l.length + m.length)) _ (.inr ⟨h.size, cap, by rw [hlen], by omega, h2, hk, by simp, ?_, e_hfrpe rfl, by rw [szY]; simp [ub], fun i x hx => ?_⟩) st (fun b hb => ?_)
    · rw [e_hszpe rfl, szY]
      simp only [List.length_append, List.length_replicate, hol, hnl]
      omega
    · have hi := (List.getElem?_eq_some_iff.1 hx).1
      rw [hlen] at hi
      show hvs _ _ _ _ = _
      rw [szY, hvs_1, Nat.mul_one, e_hvpe rfl, List.getD_eq_getElem?_getD]
      congr 1
      rw [List.getElem?_append_left (by rw [List.length_append, hol, hnl]; omega)]
      by_cases hil : i < l.length
      · rw [List.getElem?_append_left hil] at hx
        rw [List.getElem?_append_left (by omega), hor i x hx]; rfl
      · rw [List.getElem?_append_right (by omega)] at hx
        rw [List.getElem?_append_right (by omega), hol, List.getElem?_map, hx]; rfl
    · obtain ⟨o, n, c, e⟩ := hb
      cases e; right; exact Nat.le_refl _
  rcases ho with ⟨rfl, rfl⟩ | ⟨b, vc, rfl, h1, h2, h3, h4, h5, h6, h7, h8⟩
  · refine ⟨rfl, fun _ => ⟨rfl, rfl⟩, Nat.le_refl _, by rw [bl_str]; simpa using hb, [], .inl ⟨rfl, rfl⟩, fun hle => ?_, fun _ cap hc1 hc2 => ?_⟩
    · rw [bl_str] at hle
      have : m = [] := List.eq_nil_of_length_eq_zero (by omega)
      subst this
      exact hK _ u h (.inl ⟨rfl, rfl⟩) (.refl _ _ _) (fun b hb => .inl hb)
    · rw [bl_str] at hc1 ⊢
      exact grow none 0 [] cap rfl rfl (fun i x hx => by simp at hx) hc1 hc2
  · rw [szY, Nat.mul_one] at h5 h7
    refine ⟨rfl, (fun h => by cases h), h1, by rw [bl_str]; exact hb, hvs h b 0 l.length, .inr ⟨by rw [h5, Nat.zero_add]; exact h1, rfl⟩, fun hle => ?_, fun _ cap hc1 hc2 => ?_⟩
    · rw [bl_str] at hle ⊢
      simp only [Nat.zero_add]
      have hfit : l.length + (m.map byteV).length ≤ hsz h b := by rw [h5, hnl]; exact hle
      refine ⟨⟨hfit, by rw [h6]; right; exact Nat.zero_le _, ok_bytes m⟩, ?_⟩
      have hB : OwnB (.slice (some ⟨b, 0, none⟩) l.length vc) b := ⟨_, _, _, rfl⟩
      have s1 := Step.sets (S := OwnB (.slice (some ⟨b, 0, none⟩) l.length vc)) u h (m.map byteV) hB (by rw [h7]; exact Nat.le_refl _) hfit
      have s2 := Step.settle (S := OwnB (.slice (some ⟨b, 0, none⟩) l.length vc)) u (hsets h b l.length (m.map byteV)) (n := l.length + m.length) hB (by rw [h7]; exact Nat.le_add_right _ _)
      have st := s1.trans s2 (fun _ _ h => h)
      refine hK _ _ _ (.inr ⟨b, vc, by rw [hlen], by rw [hlen]; exact hle, h2, h3, by rw [hsets_size]; exact h4, by rw [hsets_hsz, szY, Nat.mul_one]; exact h5, by rw [hsets_hfr]; exact h6, by rw [hlen, szY, Nat.mul_one]; simp [ub], fun i x hx => ?_⟩) st (fun b' hb' => ?_)
      · have hi := (List.getElem?_eq_some_iff.1 hx).1
        rw [hlen] at hi
        show hvs _ _ _ _ = _
        rw [szY, hvs_1, Nat.mul_one, hsets_hv _ _ _ _ _ hfit]
        by_cases hil : i < l.length
        · rw [List.getElem?_append_left hil] at hx
          rw [if_neg (by omega)]
          have := h8 i x hx
          rw [szY, hvs_1, Nat.mul_one] at this
          exact this
        · rw [List.getElem?_append_right (by omega)] at hx
          rw [if_pos (by rw [hnl]; omega), List.getD_eq_getElem?_getD, List.getElem?_map, hx]; rfl
      · obtain ⟨o, n, c', e⟩ := hb'
        cases e; exact .inl hB
    · rw [bl_str] at hc1 ⊢
      refine grow _ vc _ cap rfl (by simp [hvs]) (fun i x hx => ?_) hc1 hc2
      have hi := (List.getElem?_eq_some_iff.1 hx).1
      have := h8 i x hx
      rw [szY, hvs_1, Nat.mul_one] at this
      have e : Go.Ev.hv h b i = Value.int .u8 x.toNat := by simpa using (show [Go.Ev.hv h b i] = [Value.int .u8 x.toNat] from this)
      unfold hvs
      rw [List.getElem?_map, List.getElem?_range hi, Option.map_some, Nat.zero_add, e]
theorem effS_apps {G : Ctr} {e : TypeId} {k : Nat} {u : U} {h : H} {v : Value} {l m : List UInt8} {d : Option Nat} {st : Stab} {r : List St} {K : Env → H → Prop} {KP : List PanicEntry → H → Prop} {σ : Env}
    (ho : OwnY k u h v l) (hk : k ≤ h.size) (hb : l.length + m.length ≤ 140737488355328)
    (hK : ∀ a n c u' h', OwnY k u' h' (.slice a n c) (l ++ m) → Step (OwnB v) u h u' h' → (∀ b, OwnB (.slice a n c) b → OwnB v b ∨ h.size ≤ b) → stabP st σ h h' ∧ wpSts G r K KP (updo σ d (.slice a n c)) h') :
    effS G (.apps e) d st r K KP [v, str m] σ h :=
  own_apps ho hk hb fun v' u' h' o' s' b' => by
    obtain ⟨a, c, rfl, -, -⟩ := @Own.sl UInt8 repB8 _ _ _ _ _ o'
    exact hK _ _ _ _ _ o' s' b'
end Go.Ev
