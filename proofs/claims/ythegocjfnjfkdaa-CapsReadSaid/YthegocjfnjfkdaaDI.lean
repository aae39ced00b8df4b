/- Instructions that only look, all together; instructions that make and write. -/
import Derived.Test.YthegocjfnjfkdaaDH
namespace Go.D
set_option linter.all false

section
variable {P : Program} {o : Oper}

theorem looks_all {op : I} (hc : compI P o = some op) (hs : op.still = true) : Looks P o op := by
  unfold compI at hc
  split at hc
  · rename_i x ho
    cases hx : compX x with
    | none => simp [hx] at hc
    | some y => simp only [hx, Option.map_some, Option.some.injEq] at hc; subst hc; exact looks_mv (.inl ho) hx
  · rename_i x ho
    cases hx : compX x with
    | none => simp [hx] at hc
    | some y => simp only [hx, Option.map_some, Option.some.injEq] at hc; subst hc; exact looks_mv (.inr ho) hx
  · rename_i c x y ho
    split at hc
    · rename_i c' x' y' h1 h2 h3; cases hc; exact looks_pick ho h1 h2 h3
    · cases hc
  · rename_i T ho
    cases hz : zeroOf P T with
    | none => simp [hz] at hc
    | some z => simp only [hz, Option.map_some, Option.some.injEq] at hc; subst hc; cases hs
  · rename_i T x ho
    cases hx : compX x with
    | none => simp [hx] at hc
    | some y => simp only [hx, Option.map_some, Option.some.injEq] at hc; subst hc; cases hs
  · rename_i T parts ho
    split at hc
    · rename_i z fs hz hu
      split at hc
      · rename_i hall
        cases hq : partsOf P (fieldPlaces P fs.toList) parts.toList with
        | none => simp [hq] at hc
        | some qs => simp only [hq, Option.map_some, Option.some.injEq] at hc; subst hc; exact looks_build_struct ho hz hu hall hq
      · cases hc
    · rename_i z n e hz hu
      split at hc
      · rename_i i hi
        cases hq : partsOf P (fun j => some (j * i.size, i.size)) parts.toList with
        | none => simp [hq] at hc
        | some qs => simp only [hq, Option.map_some, Option.some.injEq] at hc; subst hc; exact looks_build_array ho hz hu hi hq
      · cases hc
    · cases hc
  · rename_i T n parts ho
    split at hc
    · rename_i e hu
      split at hc
      · rename_i i z hi hz
        split at hc
        · cases hq : partsOf P (fun j => some (j * i.size, i.size)) parts.toList with
          | none => simp [hq] at hc
          | some qs => simp only [hq, Option.map_some, Option.some.injEq] at hc; subst hc; cases hs
        · cases hc
      · cases hc
    · cases hc
  · rename_i T x ho
    split at hc
    · rename_i y n hx hn; cases hc; exact looks_ld ho hn hx
    · cases hc
  · rename_i T x y ho
    split at hc
    · cases hc; cases hs
    · cases hc
  · rename_i x ho
    cases hx : compX x with
    | none => simp [hx] at hc
    | some y => simp only [hx, Option.map_some, Option.some.injEq] at hc; subst hc; exact looks_nil ho hx
  · rename_i b T x y U ho
    split at hc
    · rename_i x' y' hx hy
      split at hc
      · split at hc
        · rename_i fs hu
          split at hc
          · rename_i l hl
            split at hc
            · cases hc
            · rename_i hg; cases hc; exact looks_eqa (q := false) ho (.inl ⟨_, hu⟩) hl (by simpa using hg) hx hy
          · cases hc
        · rename_i n e hu
          split at hc
          · rename_i l hl
            split at hc
            · cases hc
            · rename_i hg; cases hc; exact looks_eqa (q := false) ho (.inr ⟨_, _, hu⟩) hl (by simpa using hg) hx hy
          · cases hc
        · rename_i e hu
          split at hc
          · rename_i hn; cases hc; exact looks_eqn_ptr (q := false) ho hu hn hx
          · cases hc
        · rename_i e hu
          split at hc
          · rename_i hn; cases hc; exact looks_eqn_sl (q := false) ho hu hn hx
          · cases hc
        · rename_i hu; cases hc; exact looks_eqb (q := false) ho hu hx hy
        · cases hc; exact looks_bin ho hx hy
        · cases hc
      · split at hc
        · rename_i fs hu
          split at hc
          · rename_i l hl
            split at hc
            · cases hc
            · rename_i hg; cases hc; exact looks_eqa (q := true) ho (.inl ⟨_, hu⟩) hl (by simpa using hg) hx hy
          · cases hc
        · rename_i n e hu
          split at hc
          · rename_i l hl
            split at hc
            · cases hc
            · rename_i hg; cases hc; exact looks_eqa (q := true) ho (.inr ⟨_, _, hu⟩) hl (by simpa using hg) hx hy
          · cases hc
        · rename_i e hu
          split at hc
          · rename_i hn; cases hc; exact looks_eqn_ptr (q := true) ho hu hn hx
          · cases hc
        · rename_i e hu
          split at hc
          · rename_i hn; cases hc; exact looks_eqn_sl (q := true) ho hu hn hx
          · cases hc
        · rename_i hu; cases hc; exact looks_eqb (q := true) ho hu hx hy
        · cases hc; exact looks_bin ho hx hy
        · cases hc
      · cases hc; exact looks_bin ho hx hy
    · cases hc
  · rename_i u T x ho
    cases hx : compX x with
    | none => simp [hx] at hc
    | some y => simp only [hx, Option.map_some, Option.some.injEq] at hc; subst hc; exact looks_un ho hx
  · rename_i src dst x ho
    split at hc
    · rename_i d k y h1 h2 h3; cases hc; exact looks_conv ho h1 h2 h3
    · cases hc
  · rename_i f first caps ho
    split at hc
    · rename_i hf
      cases hx : compXs caps.toList with
      | none => simp [hx] at hc
      | some ys => simp only [hx, Option.map_some, Option.some.injEq] at hc; subst hc; exact looks_mkf ho hf hx
    · cases hc
  · rename_i T n c ho
    split at hc
    · split at hc
      · split at hc
        · cases hc
        · cases hc; cases hs
      · cases hc
    · cases hc
  · rename_i T x lo hi mx ho
    split at hc
    · cases hc
    · split at hc
      · rename_i x' lo' hi' h1 h2 h3
        split at hc
        · rename_i e hu
          cases hk : P.info? e with
          | none => simp [hk] at hc
          | some k => simp only [hk, Option.map_some, Option.some.injEq] at hc; subst hc; exact looks_slc (arr := none) ho hu hk h1 h2 h3
        · rename_i n e hu
          cases hk : P.info? e with
          | none => simp [hk] at hc
          | some k => simp only [hk, Option.map_some, Option.some.injEq] at hc; subst hc; exact looks_slc (arr := some n) ho hu hk h1 h2 h3
        · cases hc
      · cases hc
  · rename_i T x f ho
    split at hc
    · rename_i fs y hu hx
      split at hc
      · rename_i fl hf
        split at hc
        · rename_i i hi
          split at hc
          · cases hc
          · rename_i hsz; cases hc; exact looks_fa ho hu hf hi hsz hx
        · cases hc
      · cases hc
    · cases hc
  · rename_i T x f ho
    split at hc
    · rename_i fs y hu hx
      split at hc
      · rename_i fl hf
        cases hn : shapeOf P fl.type with
        | none => simp [hn] at hc
        | some n => simp only [hn, Option.map_some, Option.some.injEq] at hc; subst hc; exact looks_fld ho hu hf hn hx
      · cases hc
    · cases hc
  · rename_i T x i ho
    split at hc
    · rename_i n e x' i' hu hx hi
      cases hk : P.info? e with
      | none => simp [hk] at hc
      | some k => simp only [hk, Option.map_some, Option.some.injEq] at hc; subst hc; exact looks_ia (arr := some n) ho hu hk hx hi
    · rename_i e x' i' hu hx hi
      cases hk : P.info? e with
      | none => simp [hk] at hc
      | some k => simp only [hk, Option.map_some, Option.some.injEq] at hc; subst hc; exact looks_ia (arr := none) ho hu hk hx hi
    · cases hc
  · rename_i T x i ho
    split at hc
    · rename_i n e x' i' hu hx hi
      split at hc
      · rename_i k m hk hm; cases hc; exact looks_ix ho hu hk hm hx hi
      · cases hc
    · cases hc
  · rename_i x j ho
    cases hx : compX x with
    | none => simp [hx] at hc
    | some y => simp only [hx, Option.map_some, Option.some.injEq] at hc; subst hc; exact looks_ext ho hx
  · rename_i c ho
    split at hc
    · split at hc
      · split at hc
        · cases hx : compXs c.args.toList with
          | none => simp [hx] at hc
          | some ys => simp only [hx, Option.map_some, Option.some.injEq] at hc; subst hc; cases hs
        · cases hc
      · cases hc
    · cases hx : compXs c.args.toList with
      | none => simp [hx] at hc
      | some ys => simp only [hx, Option.map_some, Option.some.injEq] at hc; subst hc; cases hs
    · rename_i hcal
      split at hc
      · rename_i x T ha hat
        split at hc
        · rename_i e hu
          cases hx : compX x with
          | none => simp [hx] at hc
          | some y => simp only [hx, Option.map_some, Option.some.injEq] at hc; subst hc; exact looks_len ho hcal ha hat hu hx
        · cases hc
      · cases hc
    · split at hc
      · split at hc
        · split at hc
          · split at hc
            · cases hc
            · cases hc; cases hs
          · cases hc
        · cases hc
      · cases hc
    · split at hc
      · split at hc
        · split at hc
          · cases hc; cases hs
          · cases hc
        · cases hc
      · cases hc
    · rename_i hcal
      split at hc
      · rename_i x y ha
        split at hc
        · rename_i x' y' hx hy; cases hc; exact looks_mx (q := false) ho hcal ha hx hy
        · cases hc
      · cases hc
    · rename_i hcal
      split at hc
      · rename_i x y ha
        split at hc
        · rename_i x' y' hx hy; cases hc; exact looks_mx (q := true) ho hcal ha hx hy
        · cases hc
      · cases hc
    · cases hc
  · cases hc

end
end Go.D
